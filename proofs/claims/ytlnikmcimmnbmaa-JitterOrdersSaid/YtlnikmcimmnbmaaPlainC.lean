/- Plain laws of windows: what is known, and with a number more. -/
import Derived.Test.YtlnikmcimmnbmaaPlainB
namespace Go.Proofs.Ytlnikmcimmnbmaa
set_option linter.unusedSimpArgs false
set_option linter.unusedVariables false

/-- The window that knows a number, too. -/
def mark (g b n : Int) : Int × Int :=
  if 63 < n - g then (n, 1) else if 0 < n - g then (n, bits .or .u64 (IntKind.u64.wrap (b * 2 ^ (n - g).toNat)) 1)
  else if -63 ≤ n - g then (g, lay b (-(n - g)) 1 1) else (g, b)
/-- What a window knows. -/
def know (g b m : Int) : Bool := decide (m ≤ g ∧ g - m ≤ 63) && b.toNat.testBit (g - m).toNat

theorem tb_one (i : Nat) : Nat.testBit 1 i = decide (i = 0) := by
  cases i with
  | zero => rfl
  | succ i => simp [Nat.testBit_succ]
theorem or_one (b : Int) (k : Nat) (hb : U64 b) (hk : 0 < k) (h63 : k ≤ 63) :
    U64 (bits .or .u64 (IntKind.u64.wrap (b * 2 ^ k)) 1) ∧ ∀ i : Nat, i < 64 → (bits .or .u64 (IntKind.u64.wrap (b * 2 ^ k)) 1).toNat.testBit i = (decide (i = 0) || (decide (k ≤ i) && b.toNat.testBit (i - k))) := by
  obtain ⟨b0, b1⟩ := hb
  obtain ⟨B, rfl⟩ := Int.eq_ofNat_of_zero_le b0
  have e : IntKind.u64.wrap ((B : Int) * 2 ^ k) = ((B * 2 ^ k % 2 ^ 64 : Nat) : Int) := by
    rw [IntKind.wrap_u64, Int.natCast_emod, Int.natCast_mul]; simp
  have hm : B * 2 ^ k % 2 ^ 64 < 2 ^ 64 := Nat.mod_lt _ (by decide)
  have e2 : bits .or .u64 (IntKind.u64.wrap ((B : Int) * 2 ^ k)) 1 = ((B * 2 ^ k % 2 ^ 64 ||| 1 : Nat) : Int) := by
    rw [e, show (1 : Int) = ((1 : Nat) : Int) from rfl, u64_or_nat _ _ (by omega) (by omega)]
  have hlt : (B * 2 ^ k % 2 ^ 64 ||| 1) < 2 ^ 64 := Nat.or_lt_two_pow hm (by decide)
  rw [e2]
  refine ⟨⟨by omega, by omega⟩, fun i hi => ?_⟩
  rw [Int.toNat_natCast, Int.toNat_natCast, Nat.testBit_or, Nat.testBit_mod_two_pow, Nat.testBit_mul_two_pow, tb_one]
  simp only [hi, decide_true, Bool.true_and]
  rw [Bool.or_comm]

theorem mark_high (g b n : Int) : (mark g b n).1 = max g n := by
  unfold mark
  split
  · simp; omega
  · split
    · simp; omega
    · split <;> (simp; omega)
theorem mark_U64 (g b n : Int) (hb : U64 b) : U64 (mark g b n).2 := by
  unfold mark
  split
  · exact ⟨(by decide : (0 : Int) ≤ 1), (by decide : (1 : Int) ≤ 18446744073709551615)⟩
  · split
    · exact (or_one b _ hb (by omega) (by omega)).1
    · split
      · exact lay_U64 _ _ _ _ hb
      · exact hb
theorem lay_bit (b k : Int) (hb : U64 b) (hk : 0 ≤ k ∧ k ≤ 63) (i : Nat) (hi : i < 64) : (lay b k 1 1).toNat.testBit i = (decide (i = k.toNat) || b.toNat.testBit i) := by
  rw [lay_toNat b k 1 1 ⟨hk.1, hk.2, by omega, by omega⟩, layN_testBit]
  simp only [hi, decide_true, Bool.true_and]
  by_cases h : i = k.toNat
  · subst h; simp
  · rw [if_neg (by simp; omega)]; simp [h]
theorem know_mark (g b n m : Int) (hb : U64 b) : know (mark g b n).1 (mark g b n).2 m = (decide (m ≤ max g n ∧ max g n - m ≤ 63) && (decide (m = n) || know g b m)) := by
  have hh := mark_high g b n
  by_cases hin : m ≤ max g n ∧ max g n - m ≤ 63
  · rw [show know (mark g b n).1 (mark g b n).2 m = (mark g b n).2.toNat.testBit (max g n - m).toNat from by unfold know; rw [hh]; simp [hin]]
    simp only [hin, and_self, decide_true, Bool.true_and]
    unfold mark
    by_cases h1 : 63 < n - g
    · rw [if_pos h1]
      have e : max g n = n := by omega
      rw [e] at *
      unfold know
      by_cases h0 : m = n
      · subst h0; simp
      · have : (n - m).toNat ≠ 0 := by omega
        simp only [h0, decide_false, Bool.false_or]
        have h2 : ¬ (m ≤ g ∧ g - m ≤ 63) := by omega
        simp only [h2, decide_false, Bool.false_and]
        rw [show (1 : Int).toNat = 1 from rfl, tb_one]; simp; omega
    · rw [if_neg h1]
      by_cases h2 : 0 < n - g
      · rw [if_pos h2]
        have e : max g n = n := by omega
        rw [e] at *
        simp only []
        rw [(or_one b (n - g).toNat hb (by omega) (by omega)).2 _ (by omega)]
        unfold know
        by_cases h0 : m = n
        · subst h0; simp
        · have h3 : (n - m).toNat ≠ 0 := by omega
          by_cases h4 : m ≤ g
          · have h5 : (n - g).toNat ≤ (n - m).toNat := by omega
            have h6 : m ≤ g ∧ g - m ≤ 63 := by omega
            simp only [h0, h3, h5, h6, and_self, decide_true, decide_false, Bool.false_or, Bool.true_and]
            rw [show (n - m).toNat - (n - g).toNat = (g - m).toNat from by omega]
          · have h5 : ¬ (n - g).toNat ≤ (n - m).toNat := by omega
            simp [h0, h3, h4, h5]
      · rw [if_neg h2]
        have e : max g n = g := by omega
        rw [e] at *
        by_cases h3 : -63 ≤ n - g
        · rw [if_pos h3, lay_bit b _ hb (by omega) _ (by omega)]
          unfold know
          have h6 : m ≤ g ∧ g - m ≤ 63 := by omega
          have h7 : decide ((g - m).toNat = (-(n - g)).toNat) = decide (m = n) := by rw [Bool.eq_iff_iff]; simp; omega
          rw [h7]; simp [h6]
        · rw [if_neg h3]
          unfold know
          have h0 : m ≠ n := by omega
          have h6 : m ≤ g ∧ g - m ≤ 63 := by omega
          simp [h0, h6]
  · have : know (mark g b n).1 (mark g b n).2 m = false := by
      unfold know; rw [hh]; simp only [hin, decide_false, Bool.false_and]
    rw [this]; simp only [hin, decide_false, Bool.false_and]
theorem win_ext (g b c : Int) (hb : U64 b) (hc : U64 c) (h : ∀ m, know g b m = know g c m) : b = c := by
  obtain ⟨b0, b1⟩ := hb
  obtain ⟨c0, c1⟩ := hc
  obtain ⟨B, rfl⟩ := Int.eq_ofNat_of_zero_le b0
  obtain ⟨C, rfl⟩ := Int.eq_ofNat_of_zero_le c0
  have : B = C := by
    apply nat_bits (by omega) (by omega)
    intro i hi
    have := h (g - i)
    unfold know at this
    have e : g - (i : Int) ≤ g ∧ g - (g - (i : Int)) ≤ 63 := by omega
    simp only [e, and_self, decide_true, Bool.true_and, Int.toNat_natCast] at this
    rwa [show (g - (g - (i : Int))).toNat = i from by omega] at this
  rw [this]
theorem know_in {g b m : Int} (h : know g b m = true) : m ≤ g ∧ g - m ≤ 63 := by
  unfold know at h
  simp only [Bool.and_eq_true, decide_eq_true_eq] at h
  exact h.1


/-- How many numbers a window knows. -/
def many (b : Int) : Int := (((List.range 64).filter fun k => b.toNat.testBit k).length : Int)
def manyTo (b : Int) (j : Nat) : Int := (((List.range j).filter fun k => b.toNat.testBit k).length : Int)
theorem manyTo_succ (b : Int) (j : Nat) : manyTo b (j + 1) = manyTo b j + bt b j := by
  unfold manyTo bt
  rw [List.range_succ, List.filter_append, List.length_append]
  by_cases h : b.toNat.testBit j
  · simp [h]
  · simp [h]
theorem manyTo_bd (b : Int) (j : Nat) : 0 ≤ manyTo b j ∧ manyTo b j ≤ j := by
  unfold manyTo
  have := List.length_filter_le (fun k => b.toNat.testBit k) (List.range j)
  simp at this
  omega
theorem many_eq (b : Int) : manyTo b 64 = many b := rfl
theorem fld_bt (b k : Int) (hb : U64 b) (hk : 0 ≤ k ∧ k ≤ 63) : fld b k 1 = bt b k := by
  unfold fld
  rw [if_pos ⟨hk.1, hk.2, by omega, by omega⟩, show two 1 = 2 from by decide, bt_eq b k hb]
theorem has_eq (g b n : Int) (hb : U64 b) (h : g - 63 ≤ n) : ((mark g b n).1 == g && (mark g b n).2 == b) = know g b n := by
  have hh := mark_high g b n
  by_cases hle : n ≤ g
  · have e : (mark g b n).1 = g := by rw [hh]; omega
    rw [e]
    simp only [BEq.rfl, Bool.true_and]
    by_cases hk : know g b n = true
    · rw [hk, beq_iff_eq]
      apply win_ext g _ _ (mark_U64 g b n hb) hb
      intro m
      have := know_mark g b n m hb
      rw [e] at this
      rw [this]
      by_cases hm : m = n
      · subst hm; rw [hk]; have := know_in hk; simp; omega
      · by_cases hkm : know g b m = true
        · have := know_in hkm; simp [hkm]; omega
        · simp only [Bool.not_eq_true] at hkm; simp [hm, hkm]
    · simp only [Bool.not_eq_true] at hk
      rw [hk]
      simp only [beq_eq_false_iff_ne, ne_eq]
      intro e2
      have := know_mark g b n n hb
      rw [e, e2, hk] at this
      simp at this
      omega
  · have e : ((mark g b n).1 == g) = false := by rw [hh]; simp; omega
    rw [e, Bool.false_and]
    unfold know
    have : ¬ (n ≤ g ∧ g - n ≤ 63) := by omega
    simp [this]

/-- The reference's way: each of the 64 numbers, one by one. -/
theorem rmark_eq (g b n : Int) (hb : U64 b) : sumBits (fun k => decide (max g n - k = n) || know g b (max g n - k)) 64 = (mark g b n).2 := by
  have hh := mark_high g b n
  have hu := mark_U64 g b n hb
  obtain ⟨u0, u1⟩ := hu
  have key : ofBits (fun k => decide (max g n - (k : Int) = n) || know g b (max g n - k)) 64 = (mark g b n).2.toNat := by
    apply ofBits_eq _ _ _ (by omega)
    intro i hi
    have h1 := know_mark g b n (max g n - i) hb
    have h2 : know (mark g b n).1 (mark g b n).2 (max g n - i) = (mark g b n).2.toNat.testBit i := by
      unfold know; rw [hh]
      have h3 : max g n - (i : Int) ≤ max g n ∧ max g n - (max g n - (i : Int)) ≤ 63 := by omega
      simp only [h3, and_self, decide_true, Bool.true_and]
      rw [show (max g n - (max g n - (i : Int))).toNat = i from by omega]
    rw [← h2, h1]
    have h3 : max g n - (i : Int) ≤ max g n ∧ max g n - (max g n - (i : Int)) ≤ 63 := by omega
    simp only [h3, and_self, decide_true, Bool.true_and]
  unfold sumBits
  rw [show (64 : Int).toNat = 64 from rfl, key]
  omega

theorem mark_idem (g b n : Int) (hb : U64 b) (h : know g b n = true ∨ n - g < -63) : mark g b n = (g, b) := by
  have hh := mark_high g b n
  rcases h with h | h
  · have hin := know_in h
    have e : (mark g b n).1 = g := by rw [hh]; omega
    have e2 : (mark g b n).2 = b := by
      apply win_ext g _ _ (mark_U64 g b n hb) hb
      intro m
      have := know_mark g b n m hb
      rw [e] at this
      rw [this]
      by_cases hm : m = n
      · subst hm; rw [h]; simp; omega
      · by_cases hkm : know g b m = true
        · have := know_in hkm; simp [hkm]; omega
        · simp only [Bool.not_eq_true] at hkm; simp [hm, hkm]
    rw [← Prod.eta (mark g b n), e, e2]
  · unfold mark
    rw [if_neg (by omega), if_neg (by omega), if_neg (by omega)]
theorem mark_comm (g b n m : Int) (hb : U64 b) : mark (mark g b n).1 (mark g b n).2 m = mark (mark g b m).1 (mark g b m).2 n := by
  have h1 := mark_high (mark g b n).1 (mark g b n).2 m
  have h2 := mark_high (mark g b m).1 (mark g b m).2 n
  have h3 := mark_high g b n
  have h4 := mark_high g b m
  have u1 := mark_U64 g b n hb
  have u2 := mark_U64 g b m hb
  have e : (mark (mark g b n).1 (mark g b n).2 m).1 = (mark (mark g b m).1 (mark g b m).2 n).1 := by rw [h1, h2, h3, h4]; omega
  have e2 : (mark (mark g b n).1 (mark g b n).2 m).2 = (mark (mark g b m).1 (mark g b m).2 n).2 := by
    apply win_ext (mark (mark g b n).1 (mark g b n).2 m).1 _ _ (mark_U64 _ _ _ u1) (mark_U64 _ _ _ u2)
    intro x
    have k1 := know_mark (mark g b n).1 (mark g b n).2 m x u1
    have k2 := know_mark (mark g b m).1 (mark g b m).2 n x u2
    rw [← e] at k2
    rw [k1, k2, know_mark g b n x hb, know_mark g b m x hb, h3, h4]
    by_cases hin : x ≤ max (max g n) m ∧ max (max g n) m - x ≤ 63
    · have i2 : x ≤ max (max g m) n ∧ max (max g m) n - x ≤ 63 := by omega
      simp only [hin, i2, and_self, decide_true, Bool.true_and]
      by_cases hk : know g b x = true
      · have := know_in hk
        by_cases x1 : x = m
        · subst x1
          have : x ≤ max g x ∧ max g x - x ≤ 63 := by omega
          simp [this, hk]
        · by_cases x2 : x = n
          · subst x2
            have : x ≤ max g x ∧ max g x - x ≤ 63 := by omega
            simp [this, hk]
          · have j1 : x ≤ max g n ∧ max g n - x ≤ 63 := by omega
            have j2 : x ≤ max g m ∧ max g m - x ≤ 63 := by omega
            simp [j1, j2, hk]
      · simp only [Bool.not_eq_true] at hk
        rw [hk]
        simp only [Bool.or_false]
        by_cases x1 : x = m
        · by_cases x2 : x = n
          · simp [x1, x2]
            left; subst x1; subst x2; rfl
          · subst x1
            have : x ≤ max g x ∧ max g x - x ≤ 63 := by omega
            simp [this]
        · by_cases x2 : x = n
          · subst x2
            have : x ≤ max g x ∧ max g x - x ≤ 63 := by omega
            simp [this]
          · simp [x1, x2]
    · have i2 : ¬ (x ≤ max (max g m) n ∧ max (max g m) n - x ≤ 63) := by omega
      simp only [hin, i2, decide_false, Bool.false_and]
  rw [← Prod.eta (mark (mark g b n).1 (mark g b n).2 m), e, e2]
theorem mark_odd (g b n : Int) (hb : U64 b) (h : b % 2 = 1) : (mark g b n).2 % 2 = 1 := by
  have hh := mark_high g b n
  have hu := mark_U64 g b n hb
  have k := know_mark g b n (max g n) hb
  have r : max g n ≤ max g n ∧ max g n - max g n ≤ 63 := by omega
  have b0 : b.toNat.testBit 0 = true := by rw [Nat.testBit_zero]; obtain ⟨h0, _⟩ := hb; simp; omega
  have kk : know (mark g b n).1 (mark g b n).2 (max g n) = true := by
    rw [k]
    simp only [r, and_self, decide_true, Bool.true_and]
    by_cases hgn : g ≤ n
    · have : max g n = n := by omega
      simp [this]
    · have : max g n = g := by omega
      rw [this]
      have : know g b g = true := by unfold know; simp [b0]
      simp [this]
  unfold know at kk
  rw [hh] at kk
  simp only [Bool.and_eq_true, Int.sub_self] at kk
  have := kk.2
  rw [show (0 : Int).toNat = 0 from rfl, Nat.testBit_zero] at this
  obtain ⟨u0, _⟩ := hu
  simp at this
  omega
theorem many_pos (b : Int) (hb : U64 b) (h : b % 2 = 1) : 1 ≤ many b := by
  unfold many
  have b0 : b.toNat.testBit 0 = true := by rw [Nat.testBit_zero]; obtain ⟨h0, _⟩ := hb; simp; omega
  have : 0 ∈ (List.range 64).filter fun k => b.toNat.testBit k := List.mem_filter.2 ⟨by simp, b0⟩
  have := List.length_pos_of_mem this
  omega
theorem mark_twice (g b n m : Int) (hb : U64 b) : mark (mark (mark g b n).1 (mark g b n).2 m).1 (mark (mark g b n).1 (mark g b n).2 m).2 n = mark (mark g b n).1 (mark g b n).2 m := by
  have u1 := mark_U64 g b n hb
  have u2 := mark_U64 (mark g b n).1 (mark g b n).2 m u1
  have h1 := mark_high (mark g b n).1 (mark g b n).2 m
  have h3 := mark_high g b n
  rw [mark_idem _ _ n u2 ?_]
  by_cases hin : n ≤ (mark (mark g b n).1 (mark g b n).2 m).1 ∧ (mark (mark g b n).1 (mark g b n).2 m).1 - n ≤ 63
  · left
    rw [know_mark _ _ m n u1, ← h1]
    simp only [hin, and_self, decide_true, Bool.true_and, know_mark g b n n hb]
    have : n ≤ max g n ∧ max g n - n ≤ 63 := by rw [h1, h3] at hin; omega
    simp [this]
  · right
    rw [h1, h3] at *
    omega

end Go.Proofs.Ytlnikmcimmnbmaa
