/- Merged from my texts PlainA, SliceA, BitsA. -/
import Derived.Laws.BitsAllLaws
import Derived.Lib.Hide
import Derived.WalkKit
import Derived.Laws.AppendOwnNone
import Derived.Deep.QuietTactic
import Derived.BigQuiet
import Derived.Test.YtdgmmffedhikcaaRows
/- Plain laws of numbers: bits of places. No program in sight. -/
namespace Go.Proofs.Ytdgmmffedhikcaa
set_option linter.unusedSimpArgs false
set_option linter.unusedVariables false

/-- The bounds of an int. -/
def I64 (a : Int) : Prop := -9223372036854775808 ≤ a ∧ a ≤ 9223372036854775807
/-- The bounds of a uint64. -/
def U64 (a : Int) : Prop := 0 ≤ a ∧ a ≤ 18446744073709551615
/-- A place that may be. -/
def May (a s : Int) : Prop := 0 ≤ a ∧ a ≤ 63 ∧ 0 ≤ s ∧ s ≤ 64 - a
instance (a : Int) : Decidable (I64 a) := by unfold I64; infer_instance
instance (a : Int) : Decidable (U64 a) := by unfold U64; infer_instance
instance (a s : Int) : Decidable (May a s) := by unfold May; infer_instance

/-- 2 to a power. -/
def two (k : Int) : Int := ((2 ^ k.toNat : Nat) : Int)
theorem two_pos (k : Int) : 1 ≤ two k := by
  unfold two; have := Nat.two_pow_pos k.toNat; omega
theorem two_le {a b : Int} (h : a ≤ b) : two a ≤ two b := by
  unfold two
  have := Nat.pow_le_pow_right (n := 2) (by omega) (Int.toNat_le_toNat h)
  omega
theorem two_64 : two 64 = 18446744073709551616 := by decide
theorem two_63 : two 63 = 9223372036854775808 := by decide
theorem two_0 : two 0 = 1 := by decide
theorem two_succ {k : Int} (h : 0 ≤ k) : two (k + 1) = 2 * two k := by
  unfold two
  rw [show (k + 1).toNat = k.toNat + 1 from by omega, Nat.pow_succ]; omega

/-- The bits of a place that may be. -/
def fld (n a s : Int) : Int := if May a s then n / two a % two s else 0

theorem and_ones (x : Int) (s : Int) (hx : U64 x) (hs : 0 ≤ s) (hs' : s ≤ 64) : bits .and .u64 x (two s - 1) = x % two s := by
  have h1 := two_pos s
  have h2 : two s ≤ 18446744073709551616 := two_64 ▸ two_le hs'
  obtain ⟨hx0, hx1⟩ := hx
  rw [u64_and _ _ hx0 (by omega) (by omega) (by omega)]
  obtain ⟨m, rfl⟩ := Int.eq_ofNat_of_zero_le hx0
  unfold two
  rw [show (((2 ^ s.toNat : Nat) : Int) - 1).toNat = 2 ^ s.toNat - 1 from by omega, Int.toNat_natCast, Nat.and_two_pow_sub_one_eq_mod]
  omega
theorem ones_eq (s : Int) (h1 : 0 ≤ s) (h2 : s ≤ 64) : IntKind.u64.wrap (IntKind.u64.wrap (2 ^ s.toNat) - 1) = two s - 1 := by
  rw [show ((2 : Int) ^ s.toNat) = two s from by unfold two; simp]
  have a1 := two_pos s
  have a2 : two s ≤ 18446744073709551616 := two_64 ▸ two_le h2
  rw [IntKind.wrap_u64, IntKind.wrap_u64]
  by_cases h : s = 64
  · subst h; rw [two_64]; decide
  · have a3 := two_le (show s + 1 ≤ 64 by omega)
    rw [two_succ h1, two_64] at a3
    omega

theorem div_U64 (n a : Int) (hn : U64 n) : U64 (n / two a) := by
  obtain ⟨h1, h2⟩ := hn
  have := two_pos a
  constructor
  · exact Int.ediv_nonneg h1 (by omega)
  · exact Int.le_trans (Int.ediv_le_self _ h1) h2

theorem fld_and (n a s : Int) (hn : U64 n) (h : May a s) : bits .and .u64 (n / 2 ^ a.toNat) (two s - 1) = fld n a s := by
  rw [show ((2 : Int) ^ a.toNat) = two a from by unfold two; simp]
  unfold fld
  rw [if_pos h]
  obtain ⟨h1, h2, h3, h4⟩ := h
  exact and_ones _ s (div_U64 n a hn) h3 (by omega)

/-- A number of its lowest k bits. -/
def ofBits (f : Nat → Bool) : Nat → Nat
  | 0 => 0
  | k + 1 => ofBits f k + (f k).toNat * 2 ^ k

theorem ofBits_lt (f : Nat → Bool) : ∀ k, ofBits f k < 2 ^ k
  | 0 => by simp [ofBits]
  | k + 1 => by
    have h := ofBits_lt f k
    have h1 : (f k).toNat ≤ 1 := by cases f k <;> simp
    have h2 : (f k).toNat * 2 ^ k ≤ 1 * 2 ^ k := Nat.mul_le_mul_right _ h1
    simp only [ofBits, Nat.pow_succ]; omega

theorem ofBits_testBit (f : Nat → Bool) : ∀ k i, (ofBits f k).testBit i = (decide (i < k) && f i)
  | 0, i => by simp [ofBits]
  | k + 1, i => by
    have ih := ofBits_testBit f k i
    have hl := ofBits_lt f k
    simp only [ofBits]
    rw [Nat.add_comm, Nat.mul_comm, Nat.testBit_two_pow_mul_add _ hl]
    by_cases h : i < k
    · rw [if_pos h, ih]; simp [h]; omega
    · rw [if_neg h]
      by_cases h' : i = k
      · subst h'; simp; cases f i <;> simp
      · have : ¬ i < k + 1 := by omega
        simp only [this, decide_false, Bool.false_and]
        obtain ⟨d, hd⟩ : ∃ d, i - k = d + 1 := ⟨i - k - 1, by omega⟩
        rw [hd]
        cases f k <;> simp [Nat.testBit_succ]

theorem ofBits_eq (f : Nat → Bool) (k m : Nat) (hm : m < 2 ^ k) (h : ∀ i, i < k → f i = m.testBit i) : ofBits f k = m := by
  apply Nat.eq_of_testBit_eq
  intro i
  rw [ofBits_testBit]
  by_cases hi : i < k
  · simp [hi, h i hi]
  · simp only [hi, decide_false, Bool.false_and]
    exact (Nat.testBit_lt_two_pow (Nat.lt_of_lt_of_le hm (Nat.pow_le_pow_right (by omega) (by omega)))).symm

/-- Bits into a place, as natural numbers. -/
def layN (n a s v : Nat) : Nat := ofBits (fun i => if a ≤ i ∧ i < a + s then v.testBit (i - a) else n.testBit i) 64

theorem layN_lt (n a s v : Nat) : layN n a s v < 18446744073709551616 := ofBits_lt _ 64
theorem layN_testBit (n a s v i : Nat) : (layN n a s v).testBit i = (decide (i < 64) && if a ≤ i ∧ i < a + s then v.testBit (i - a) else n.testBit i) :=
  ofBits_testBit _ _ _

theorem place_testBit (a s i : Nat) : ((2 ^ s - 1) * 2 ^ a).testBit i = decide (a ≤ i ∧ i < a + s) := by
  rw [Nat.mul_comm, Nat.testBit_two_pow_mul, Nat.testBit_two_pow_sub_one]
  rw [Bool.eq_iff_iff]; simp; omega

theorem lay_nat (n a s v : Nat) (hn : n < 2 ^ 64) (h : a + s ≤ 64) :
    (n &&& (2 ^ 64 - 1 - (2 ^ s - 1) * 2 ^ a)) ||| ((v * 2 ^ a % 2 ^ 64) &&& ((2 ^ s - 1) * 2 ^ a)) = layN n a s v := by
  apply Nat.eq_of_testBit_eq
  intro i
  have hp : (2 ^ s - 1) * 2 ^ a < 2 ^ 64 := by
    have h1 : 2 ^ s * 2 ^ a ≤ 2 ^ 64 := by rw [← Nat.pow_add]; exact Nat.pow_le_pow_right (by omega) (by omega)
    have h2 : 1 * 2 ^ a ≤ 2 ^ s * 2 ^ a := Nat.mul_le_mul_right _ (Nat.two_pow_pos s)
    have h3 := Nat.two_pow_pos a
    rw [Nat.sub_mul]; omega
  rw [layN_testBit, Nat.testBit_or, Nat.testBit_and, Nat.testBit_and, place_testBit, Nat.testBit_mod_two_pow, Nat.testBit_mul_two_pow,
    show 2 ^ 64 - 1 - (2 ^ s - 1) * 2 ^ a = 2 ^ 64 - ((2 ^ s - 1) * 2 ^ a + 1) from by omega, Nat.testBit_two_pow_sub_succ hp, place_testBit]
  by_cases hi : i < 64
  · by_cases hp : a ≤ i ∧ i < a + s
    · simp [hi, hp]
    · simp [hi, hp]
  · have : n.testBit i = false := Nat.testBit_lt_two_pow (Nat.lt_of_lt_of_le hn (Nat.pow_le_pow_right (by omega) (by omega)))
    simp [hi, this]

/-- Bits into a place. -/
def lay (n a s v : Int) : Int := if May a s then ((layN n.toNat a.toNat s.toNat v.toNat : Nat) : Int) else n

theorem lay_bits (n a s v : Int) (hn : U64 n) (hv : U64 v) (h : May a s) :
    bits .or .u64 (bits .andNot .u64 n (IntKind.u64.wrap ((two s - 1) * 2 ^ a.toNat))) (bits .and .u64 (IntKind.u64.wrap (v * 2 ^ a.toNat)) (IntKind.u64.wrap ((two s - 1) * 2 ^ a.toNat))) = lay n a s v := by
  unfold lay
  rw [if_pos h]
  obtain ⟨h1, h2, h3, h4⟩ := h
  obtain ⟨n1, n2⟩ := hn
  obtain ⟨v1, v2⟩ := hv
  obtain ⟨N, rfl⟩ := Int.eq_ofNat_of_zero_le n1
  obtain ⟨V, rfl⟩ := Int.eq_ofNat_of_zero_le v1
  obtain ⟨A, rfl⟩ := Int.eq_ofNat_of_zero_le h1
  obtain ⟨S, rfl⟩ := Int.eq_ofNat_of_zero_le h3
  simp only [Int.toNat_natCast]
  have hp : (2 ^ S - 1) * 2 ^ A < 2 ^ 64 := by
    have h1 : 2 ^ S * 2 ^ A ≤ 2 ^ 64 := by rw [← Nat.pow_add]; exact Nat.pow_le_pow_right (by omega) (by omega)
    have h2 : 1 * 2 ^ A ≤ 2 ^ S * 2 ^ A := Nat.mul_le_mul_right _ (Nat.two_pow_pos S)
    have h3 := Nat.two_pow_pos A
    rw [Nat.sub_mul]; omega
  have e1 : IntKind.u64.wrap ((two S - 1) * 2 ^ A) = (((2 ^ S - 1) * 2 ^ A : Nat) : Int) := by
    rw [IntKind.wrap_u64]
    unfold two
    have := Nat.two_pow_pos S
    have e : (((2 ^ S : Nat) : Int) - 1) * 2 ^ A = (((2 ^ S - 1) * 2 ^ A : Nat) : Int) := by
      rw [Int.natCast_mul, Int.natCast_sub (by omega)]; simp
    simp only [Int.toNat_natCast]
    rw [e]; omega
  have e2 : IntKind.u64.wrap ((V : Int) * 2 ^ A) = ((V * 2 ^ A % 2 ^ 64 : Nat) : Int) := by
    rw [IntKind.wrap_u64, Int.natCast_emod, Int.natCast_mul]; simp
  have hm : V * 2 ^ A % 2 ^ 64 < 2 ^ 64 := Nat.mod_lt _ (by decide)
  rw [e1, e2, u64_andNot_nat N _ (by omega) (by omega), u64_and_nat _ _ (by omega) (by omega), u64_or_nat _ _ ?_ ?_, ← lay_nat N A S V (by omega) (by omega)]
  · exact Nat.lt_of_le_of_lt Nat.and_le_left (by omega)
  · exact Nat.lt_of_le_of_lt Nat.and_le_left (by omega)

/-- Bits as a number with a sign. -/
def sgd (n s : Int) : Int := if s < 1 ∨ s > 64 then 0 else if n % two s < two (s - 1) then n % two s else n % two s - two s
theorem mul_mod_mul (a b c : Int) (hc : 0 < c) : (a * c) % (b * c) = (a % b) * c := by
  rw [Int.mul_comm a c, Int.mul_comm b c, Int.mul_emod_mul_of_pos _ _ hc, Int.mul_comm]
theorem two_add {a b : Int} (ha : 0 ≤ a) (hb : 0 ≤ b) : two (a + b) = two a * two b := by
  unfold two; rw [Int.toNat_add ha hb, Nat.pow_add]; simp
theorem sgd_bits (n s : Int) (h1 : 1 ≤ s) (h2 : s ≤ 64) : RowKit.wrap64 (IntKind.u64.wrap (n * 2 ^ (64 - s).toNat)) / 2 ^ (64 - s).toNat = sgd n s := by
  rw [show ((2 : Int) ^ (64 - s).toNat) = two (64 - s) from by unfold two; simp, IntKind.wrap_u64]
  have e : (18446744073709551616 : Int) = two s * two (64 - s) := by rw [← two_add (by omega) (by omega), ← two_64]; congr 1; omega
  have e' : (9223372036854775808 : Int) = two (s - 1) * two (64 - s) := by rw [← two_add (by omega) (by omega), ← two_63]; congr 1; omega
  have p := two_pos (64 - s)
  have q := two_succ (k := s - 1) (by omega)
  rw [show s - 1 + 1 = s from by omega] at q
  unfold sgd
  rw [if_neg (by omega)]
  have hw : ∀ x : Int, 0 ≤ x → x < 18446744073709551616 → RowKit.wrap64 x = if x < 9223372036854775808 then x else x - 18446744073709551616 := by
    intro x a b; unfold RowKit.wrap64; split <;> omega
  have m0 : 0 ≤ n * two (64 - s) % 18446744073709551616 := Int.emod_nonneg _ (by decide)
  have m1 : n * two (64 - s) % 18446744073709551616 < 18446744073709551616 := Int.emod_lt_of_pos _ (by decide)
  rw [hw _ m0 m1, e, mul_mod_mul _ _ _ (by omega), e']
  have hlt : (n % two s * two (64 - s) < two (s - 1) * two (64 - s)) ↔ n % two s < two (s - 1) :=
    ⟨fun h => Int.lt_of_mul_lt_mul_right h (by omega), fun h => Int.mul_lt_mul_of_pos_right h (by omega)⟩
  by_cases h : n % two s < two (s - 1)
  · rw [if_pos (hlt.2 h), if_pos h]; exact Int.mul_ediv_cancel _ (by omega)
  · rw [if_neg (fun x => h (hlt.1 x)), if_neg h, ← Int.sub_mul]; exact Int.mul_ediv_cancel _ (by omega)
/-- The number that bytes are. -/
def num (l : List Int) : Int := l.foldl (fun n b => (256 * n + b) % 18446744073709551616) 0
theorem num_snoc (l : List Int) (b : Int) : num (l ++ [b]) = (256 * num l + b) % 18446744073709551616 := by simp [num]
theorem num_bd (l : List Int) (hl : ∀ i, 0 ≤ l.getD i 0 ∧ l.getD i 0 ≤ 255) : U64 (num l) := by
  unfold num
  have : ∀ (l : List Int) (n : Int), U64 n → U64 (l.foldl (fun n b => (256 * n + b) % 18446744073709551616) n) := by
    intro l
    induction l with
    | nil => intro n h; exact h
    | cons x l ih =>
      intro n _
      have h1 := Int.emod_nonneg (256 * n + x) (b := 18446744073709551616) (by decide)
      have h2 := Int.emod_lt_of_pos (256 * n + x) (b := 18446744073709551616) (by decide)
      exact ih _ ⟨h1, Int.le_of_lt_add_one h2⟩
  exact this l 0 ⟨by decide, by decide⟩
theorem num_step (l : List Int) (j : Nat) (h : j < l.length) (hb : 0 ≤ l.getD j 0 ∧ l.getD j 0 ≤ 255) :
    IntKind.u64.wrap (IntKind.u64.wrap (256 * num (List.take j l)) + IntKind.u64.wrap l[j]) = num (l.take (j + 1)) := by
  rw [List.take_succ_eq_append_getElem h, num_snoc]
  simp only [IntKind.wrap_u64]
  omega
/-- A bit, as the reference tells it. -/
def bt (n a : Int) : Int := if n.toNat.testBit a.toNat then 1 else 0
theorem bt_eq (n a : Int) (hn : U64 n) : n / two a % 2 = bt n a := by
  obtain ⟨n1, _⟩ := hn
  obtain ⟨N, rfl⟩ := Int.eq_ofNat_of_zero_le n1
  unfold bt two
  rw [Int.toNat_natCast, Nat.testBit_eq_decide_div_mod_eq]
  have : (N : Int) / ((2 ^ a.toNat : Nat) : Int) % 2 = ((N / 2 ^ a.toNat % 2 : Nat) : Int) := by omega
  rw [this]
  have h := Nat.mod_two_eq_zero_or_one (N / 2 ^ a.toNat)
  rcases h with h | h <;> simp [h]
theorem bt_01 (n a : Int) : 0 ≤ bt n a ∧ bt n a ≤ 1 := by unfold bt; split <;> simp
/-- The lowest bits, of a function. -/
def sumBits (f : Nat → Bool) (j : Int) : Int := ((ofBits f j.toNat : Nat) : Int)
theorem sumBits_0 (f : Nat → Bool) : sumBits f 0 = 0 := rfl
theorem sumBits_succ (f : Nat → Bool) (j : Int) (h : 0 ≤ j) : sumBits f (j + 1) = sumBits f j + (if f j.toNat then 1 else 0) * two j := by
  unfold sumBits two
  rw [show (j + 1).toNat = j.toNat + 1 from by omega]
  simp only [ofBits]
  cases f j.toNat <;> simp
theorem sumBits_bd (f : Nat → Bool) (j : Int) : 0 ≤ sumBits f j ∧ sumBits f j < two j := by
  unfold sumBits two
  have := ofBits_lt f j.toNat
  omega

theorem sum_mod (n j : Int) (hn : U64 n) : sumBits n.toNat.testBit j = n % two j := by
  obtain ⟨n1, _⟩ := hn
  obtain ⟨N, rfl⟩ := Int.eq_ofNat_of_zero_le n1
  unfold sumBits two
  rw [Int.toNat_natCast, ofBits_eq _ _ (N % 2 ^ j.toNat) (Nat.mod_lt _ (Nat.two_pow_pos _)) (fun i hi => by rw [Nat.testBit_mod_two_pow]; simp [hi])]
  omega
theorem sgd_split (n s : Int) (hn : U64 n) (h1 : 1 ≤ s) : n % two s = n % two (s - 1) + bt n (s - 1) * two (s - 1) := by
  have h := sumBits_succ n.toNat.testBit (s - 1) (by omega)
  rw [show s - 1 + 1 = s from by omega, sum_mod n s hn, sum_mod n (s - 1) hn] at h
  exact h
theorem sgd_one (n s : Int) (hn : U64 n) (h1 : 1 ≤ s) (h2 : s ≤ 64) (hb : bt n (s - 1) = 1) : sumBits n.toNat.testBit (s - 1) - (two (s - 1) - 1) - 1 = sgd n s := by
  have h := sgd_split n s hn h1
  have b := two_pos (s - 1)
  have q := two_succ (k := s - 1) (by omega)
  rw [show s - 1 + 1 = s from by omega] at q
  rw [hb] at h
  rw [sum_mod n _ hn]
  have c := Int.emod_nonneg n (b := two (s - 1)) (by omega)
  unfold sgd
  rw [if_neg (by omega), if_neg (by omega)]
  omega
theorem sgd_zero (n s : Int) (hn : U64 n) (h1 : 1 ≤ s) (h2 : s ≤ 64) (hb : ¬ bt n (s - 1) = 1) : sumBits n.toNat.testBit (s - 1) = sgd n s := by
  have h := sgd_split n s hn h1
  have b := two_pos (s - 1)
  have e : bt n (s - 1) = 0 := by have := bt_01 n (s - 1); omega
  rw [e] at h
  rw [sum_mod n _ hn]
  have c := Int.emod_lt_of_pos n (b := two (s - 1)) (by omega)
  unfold sgd
  rw [if_neg (by omega), if_pos (by omega)]
  omega
/-- All of a list are bytes. -/
def Byt (l : List Int) : Prop := ∀ i, 0 ≤ l.getD i 0 ∧ l.getD i 0 ≤ 255
/-- One byte of a number. -/
def by8 (n : Int) (j : Nat) : Int := n / 2 ^ (8 * j) % 256
/-- The bytes of a number, the last k of s; the others 0. -/
def bysTo (n : Int) (s k : Nat) : List Int := (List.range s).map fun i => if s ≤ i + k then by8 n (s - 1 - i) else 0
def bys (n : Int) (s : Nat) : List Int := (List.range s).map fun i => by8 n (s - 1 - i)
theorem bysTo_length (n : Int) (s k : Nat) : (bysTo n s k).length = s := by simp [bysTo]
theorem bys_length (n : Int) (s : Nat) : (bys n s).length = s := by simp [bys]
theorem bysTo_zero (n : Int) (s : Nat) : bysTo n s 0 = List.replicate s 0 := by
  apply List.ext_getElem <;> simp [bysTo]
  intros; omega
theorem bysTo_full (n : Int) (s : Nat) : bysTo n s s = bys n s := by
  apply List.ext_getElem <;> simp [bysTo, bys]
theorem bysTo_set (n : Int) (s k : Nat) (h : k < s) : (bysTo n s k).set (s - 1 - k) (by8 n k) = bysTo n s (k + 1) := by
  apply List.ext_getElem
  · simp [bysTo]
  · intro i h1 h2
    simp [bysTo] at h1 h2
    rw [List.getElem_set]
    simp only [bysTo, List.getElem_map, List.getElem_range]
    by_cases he : s - 1 - k = i
    · rw [if_pos he, if_pos (by omega), show s - 1 - i = k from by omega]
    · rw [if_neg he]
      by_cases h3 : s ≤ i + k
      · rw [if_pos h3, if_pos (by omega)]
      · rw [if_neg h3, if_neg (by omega)]
theorem by8_bd (n : Int) (j : Nat) : 0 ≤ by8 n j ∧ by8 n j ≤ 255 := by
  unfold by8
  have h1 := Int.emod_nonneg (n / 2 ^ (8 * j)) (b := 256) (by decide)
  have h2 := Int.emod_lt_of_pos (n / 2 ^ (8 * j)) (b := 256) (by decide)
  omega
theorem bys_succ (n : Int) (k : Nat) : bys n (k + 1) = by8 n k :: bys n k := by
  unfold bys
  rw [List.range_succ_eq_map, List.map_cons, List.map_map]
  congr 1
  apply List.map_congr_left
  intro i _
  show by8 n (k + 1 - 1 - (i + 1)) = _
  rw [show k + 1 - 1 - (i + 1) = k - 1 - i from by omega]
theorem div_step (n : Int) (k : Nat) : n / 2 ^ (8 * k) / 256 = n / 2 ^ (8 * (k + 1)) := by
  rw [Int.ediv_ediv_of_nonneg (Int.pow_nonneg (by decide)), show 8 * (k + 1) = 8 * k + 8 from by omega, Int.pow_add]
  rfl
theorem snoc_ind {α : Type} {P : List α → Prop} (h0 : P []) (h1 : ∀ l x, P l → P (l ++ [x])) (l : List α) : P l := by
  have : ∀ m : List α, P m.reverse := by
    intro m
    induction m with
    | nil => simpa using h0
    | cons x m ih => rw [List.reverse_cons]; exact h1 _ x ih
  simpa using this l.reverse
/-- The number that bytes are, uncut. -/
def numE (l : List Int) : Int := l.foldl (fun n b => 256 * n + b) 0
theorem numE_snoc (l : List Int) (b : Int) : numE (l ++ [b]) = 256 * numE l + b := by simp [numE]
theorem numE_append (a : List Int) : ∀ b : List Int, numE (a ++ b) = numE a * 256 ^ b.length + numE b := by
  refine snoc_ind (by simp [numE]) fun b x ih => ?_
  · rw [← List.append_assoc, numE_snoc, ih, numE_snoc, List.length_append, List.length_singleton, Int.pow_succ, Int.mul_add, ← Int.mul_assoc]
    rw [← Int.mul_assoc, Int.mul_comm (numE a * _) 256, ← Int.mul_assoc]; omega
theorem num_numE (l : List Int) : num l = numE l % 18446744073709551616 := by
  refine snoc_ind (P := fun l => num l = numE l % 18446744073709551616) rfl (fun l x ih => ?_) l
  rw [num_snoc, numE_snoc, ih]; omega
theorem num_last (l : List Int) : num (l.drop (l.length - 8)) = num l := by
  by_cases h : l.length ≤ 8
  · rw [show l.length - 8 = 0 from by omega, List.drop_zero]
  · rw [num_numE, num_numE l]
    have e := numE_append (l.take (l.length - 8)) (l.drop (l.length - 8))
    rw [List.take_append_drop, List.length_drop, show l.length - (l.length - 8) = 8 from by omega] at e
    rw [e, show (256 : Int) ^ 8 = 18446744073709551616 from by decide]
    omega
theorem num_or (n b : Int) (hn : U64 n) (hb : 0 ≤ b ∧ b ≤ 255) : bits .or .u64 (IntKind.u64.wrap (n * 256)) b = (256 * n + b) % 18446744073709551616 := by
  obtain ⟨h1, h2⟩ := hn
  obtain ⟨b1, b2⟩ := hb
  obtain ⟨N, rfl⟩ := Int.eq_ofNat_of_zero_le h1
  obtain ⟨B, rfl⟩ := Int.eq_ofNat_of_zero_le b1
  rw [IntKind.wrap_u64, show ((N : Int) * 256) % 18446744073709551616 = ((N * 256 % 18446744073709551616 : Nat) : Int) from by omega, u64_or_nat _ _ (by omega) (by omega)]
  have e : N * 256 % 18446744073709551616 = 2 ^ 8 * (N % 2 ^ 56) := by omega
  rw [e, ← Nat.two_pow_add_eq_or_of_lt (by omega)]
  omega
theorem num_stepO (l : List Int) (j : Nat) (h : j < l.length) (hb : Byt l) : bits .or .u64 (IntKind.u64.wrap (num (l.take j) * 256)) (IntKind.u64.wrap l[j]) = num (l.take (j + 1)) := by
  have hu := num_bd (l.take j) (fun i => by
    by_cases hi : i < (l.take j).length
    · have := hb i
      rw [List.getD_eq_getElem?_getD, List.getElem?_take] at *
      simp at hi
      rw [if_pos (by omega)]; exact this
    · simp at hi
      rw [List.getD_eq_getElem?_getD, List.getElem?_eq_none (by simp; omega)]; simp)
  have hb' := hb j
  rw [List.getD_eq_getElem?_getD, List.getElem?_eq_getElem h, Option.getD_some] at hb'
  rw [show IntKind.u64.wrap l[j] = l[j] from by rw [IntKind.wrap_u64]; omega, num_or _ _ hu hb', List.take_succ_eq_append_getElem h, num_snoc]
end Go.Proofs.Ytdgmmffedhikcaa
/- Slices of integers that read as a list. -/
namespace Go.Proofs.Ytdgmmffedhikcaa
set_option linter.unusedSimpArgs false
set_option linter.unusedVariables false
open Go.RowKit

theorem ret_bool {a b : Bool} (h : a = b) : Ending.returned (.bool a) = .returned (.bool b) := by rw [h]
theorem ret_int {k : IntKind} {a b : Int} (h : a = b) : Ending.returned (.int k a) = .returned (.int k b) := by rw [h]

/-- All cells that were there are as they were; the world may have grown. -/
abbrev More (w w' : World) : Prop := Below w.heap.size w w'
theorem More.refl (w : World) : More w w := Below.refl _ _
theorem More.trans {a b c : World} (h : More a b) (k : More b c) : More a c := Below.trans h (k.mono h.size)
theorem More.drewN (w : World) (k : Nat) : More w (w.drewN k) := ⟨rfl, rfl, rfl, Nat.le_refl _, fun _ _ => rfl⟩
theorem More.alloc (w : World) (o : Obj) : More w (w.alloc o) := (Below.refl _ _).alloc (Nat.le_refl _) o
theorem More.dr {w w' : World} (h : More w w') (k : Nat) : More w (w'.drewN k) := h.trans (More.drewN _ _)
theorem More.al {w w' : World} (h : More w w') (o : Obj) : More w (w'.alloc o) := h.trans (More.alloc _ _)
theorem More.st {w w' : World} (h : More w w') {p : Addr} (hp : w.heap.size ≤ p.block) (v : Value) : More w (w'.setCell p v) := Below.setCell h hp v

theorem More.cells {w w' : World} (h : More w w') (b o : Nat) (hb : b < w.heap.size) : w'.cell? ⟨b, o, none⟩ = w.cell? ⟨b, o, none⟩ := h.cell (p := ⟨b, o, none⟩) hb

theorem More.rules {w w' : World} (h : More w w') : (∀ b o, b < w.heap.size → w'.cell? ⟨b, o, none⟩ = w.cell? ⟨b, o, none⟩) ∧ (∀ b o, b < w.heap.size → w'.frozen? ⟨b, o, none⟩ = w.frozen? ⟨b, o, none⟩) :=
  ⟨fun b o hb => h.cell (p := ⟨b, o, none⟩) hb, fun b o hb => h.frozen (p := ⟨b, o, none⟩) hb⟩

/-- A slice of integers that reads as a list: nil, too, as the empty one. -/
def SlI (k : IntKind) (w : World) (v : Value) (l : List Int) : Prop :=
  ∃ oa cap, v = .slice oa l.length cap ∧ (l.length : Int) ≤ 9223372036854775807 ∧ (∀ i, i < l.length → ∃ b off, oa = some ⟨b, off, none⟩ ∧ b < w.heap.size ∧ w.cell? ⟨b, off + i, none⟩ = some (.int k (l.getD i 0))) ∧ l.length ≤ cap ∧ cap ≤ maxLen ∧ (oa = none → cap = 0)

theorem SlI.keep {k : IntKind} {w w' : World} {v : Value} {l : List Int} (h : SlI k w v l) (m : More w w') : SlI k w' v l := by
  obtain ⟨oa, cap, h1, h2, h3, h4⟩ := h
  refine ⟨oa, cap, h1, h2, fun i hi => ?_, h4⟩
  obtain ⟨b, off, e, hb, hc⟩ := h3 i hi
  exact ⟨b, off, e, Nat.lt_of_lt_of_le hb m.size, by rw [m.cells b _ hb]; exact hc⟩

theorem SlI.nil (k : IntKind) (w : World) : SlI k w (.slice none 0 0) [] := ⟨none, 0, rfl, by simp, fun i hi => by simp at hi, by simp, by unfold maxLen; omega, fun _ => rfl⟩

/-- What the call owns reads as its list. -/
theorem SlI.of_owns {k : IntKind} {w : World} {base e : Nat} {v : Value} {l : List Int} (h : w.ownsRow base e 1 v l.length (l.map (Value.int k))) (hl : (l.length : Int) ≤ 9223372036854775807) : SlI k w v l := by
  obtain ⟨h1, h2⟩ := h
  rcases h2 with ⟨rfl, h0⟩ | ⟨g, cap, cur, rfl, hb, hg, hnc, hcm, hcs, htake⟩
  · exact ⟨none, 0, by rw [h0], hl, fun i hi => by omega, by omega, by unfold maxLen; omega, fun _ => rfl⟩
  · refine ⟨_, cap, rfl, hl, fun i hi => ⟨g, 0, rfl, lt_of_block hg, ?_⟩, hnc, hcm, fun h => by cases h⟩
    rw [Nat.zero_add, cell_of_row w g i cur e (0, 0) hg]
    have : (cur.toList.take (l.length * 1))[i]? = (l.map (Value.int k))[i]? := by rw [htake]
    rw [List.getElem?_take, if_pos (by omega)] at this
    simp at this
    simp [this, hi]

/-- A slice literal. -/
theorem SlI.lit (k : IntKind) (w : World) (l : List Int) (e : TypeId) (cs : Array Value) (n b : Nat) (h : cs = (l.map (Value.int k)).toArray) (hn : n = l.length) (hb : b = w.heap.size) (hl : l.length ≤ 1000) :
    SlI k (w.alloc (.cells cs e)) (.slice (some ⟨b, 0, none⟩) n n) l := by
  subst h hn hb
  have h1 := World.ownsRow_lit (base := w.heap.size) (size := 1) (e := e) w (l.map (Value.int k)).toArray l.length (Nat.le_refl _) (by unfold maxLen; omega) (by simp)
  exact SlI.of_owns (base := w.heap.size) (e := e) (by simpa using h1) (by omega)
theorem Byt.of_all {l : List Int} (h : (l.all fun x => decide (0 ≤ x ∧ x ≤ 255)) = true) : Byt l := by
  intro i
  rw [List.getD_eq_getElem?_getD]
  by_cases hi : i < l.length
  · rw [List.getElem?_eq_getElem hi, Option.getD_some]
    rw [List.all_eq_true] at h
    simpa using h l[i] (List.getElem_mem hi)
  · rw [List.getElem?_eq_none (by omega)]; simp

/-- append(s, x...): s is the call's own, x reads as a list. -/
theorem wpList_append_sl {P : Program} (w : World) {ops : Array Oper} {rest : List Oper} {o : Oper} {a : Act} {Q : Exit → Act → World → Prop} (hgd : o.guard = none) (s x : Operand) (t : TypeId)
    (ho : o.op = .call { callee := .builtin .append, args := #[s, x], argTypes := #[t, t] })
    (base : Nat) (e : TypeId) (i : TypeInfo) (z : Value) (bytes : Nat) (ht : P.underlying t = some (.slice e)) (hi : P.info? e = some i) (hz : i.zero = some z)
    (hsize : i.size = 1) (hby : i.bytes = bytes) (hzs : z.cells.size = 1)
    (v : Value) (k : IntKind) (l : List Int) (hs : a.eval s = v) (hown : w.ownsRow base e 1 v l.length (l.map (Value.int k)))
    (vx : Value) (lx : List Int) (hx : a.eval x = vx) (hl : SlI k w vx lx)
    (hbytes : (l.length + lx.length) * bytes ≤ 140737488355328) (hby1 : 1 ≤ bytes) (hbase : base ≤ w.heap.size)
    (h : ∀ v' w', w'.ownsRow base e 1 v' (l ++ lx).length ((l ++ lx).map (Value.int k)) → w.grownBy w' v.ownBlock → wpList P ops Q rest (a.put o.dst v') w') : wpList P ops Q (o :: rest) a w := by
  have h63 : l.length + lx.length ≤ maxLen := by
    have := Nat.le_mul_of_pos_right (l.length + lx.length) (show 0 < bytes by omega)
    unfold maxLen; omega
  obtain ⟨oa, cap, rfl, hl1, hl2, hl3, hl4, hl5⟩ := hl
  cases oa with
  | none =>
    have h0 : cap = 0 := hl5 rfl
    subst h0
    have hn : lx = [] := List.eq_nil_of_length_eq_zero (by omega)
    subst hn
    refine wpList_append_own_none hgd s x t ho base e i 1 ht hi v l.length (l.map (Value.int k)) hs hown hx ?_
    exact h v w (by simpa using hown) ⟨rfl, rfl, rfl, Nat.le_refl _, fun _ _ _ => rfl⟩
  | some ad =>
    refine wpList_append_own w hgd s x t ho base e i z 1 bytes ht hi hz hsize hby hzs (by decide) v l.length (l.map (Value.int k)) hs hown ad lx.length cap (lx.map (Value.int k)) hx (by simp) ?_ ?_ h63 hbytes hbase ?_
    · intro j u hj
      rw [List.getElem?_map] at hj
      obtain ⟨y, hy, rfl⟩ := Option.map_eq_some_iff.1 hj
      obtain ⟨hlt, hy'⟩ := List.getElem?_eq_some_iff.1 hy
      obtain ⟨b, off, e1, _, hc⟩ := hl2 j hlt
      simp only [Option.some.injEq] at e1
      subst e1
      have ea : (⟨b, off, none⟩ : Addr).add j = ⟨b, off + j, none⟩ := by
        unfold Addr.add; split
        · rename_i h0; subst h0; rfl
        · rfl
      rw [ea, hc, List.getD_eq_getElem?_getD, hy]; rfl
    · intro u hu
      obtain ⟨y, _, rfl⟩ := List.mem_map.1 hu
      rfl
    · intro v' w' h1 h2 _
      exact h v' w' (by simpa using h1) h2

end Go.Proofs.Ytdgmmffedhikcaa
/- Contracts of package bits and of the reference manifoldref01. -/
namespace Go.Proofs.Ytdgmmffedhikcaa
set_option linter.unusedSimpArgs false
set_option linter.unusedVariables false
open Go.RowKit

end Go.Proofs.Ytdgmmffedhikcaa
