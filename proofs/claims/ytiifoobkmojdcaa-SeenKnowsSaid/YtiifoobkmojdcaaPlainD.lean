/- Plain laws of windows of lists of numbers. -/
import Derived.Test.YtiifoobkmojdcaaPlainC
namespace Go.Proofs.Ytiifoobkmojdcaa

/-- The window of a list of numbers. -/
def wins : List Int → Int × Int
  | [] => (0, 0)
  | x :: xs => xs.foldl (fun w m => mark w.1 w.2 m) (x, 1)
/-- The greatest of the first j. -/
def topTo (l : List Int) (j : Nat) : Int := (l.take j).foldl max (l.getD 0 0)
theorem topTo_succ (l : List Int) (j : Nat) (h : j < l.length) : topTo l (j + 1) = max (topTo l j) (l.getD j 0) := by
  unfold topTo
  rw [List.take_succ_eq_append_getElem h, List.foldl_append]
  simp [List.getD_eq_getElem?_getD, h]
theorem wins_snoc (l : List Int) (m : Int) (h : l ≠ []) : wins (l ++ [m]) = mark (wins l).1 (wins l).2 m := by
  cases l with
  | nil => exact absurd rfl h
  | cons x xs => simp [wins, List.foldl_append]
theorem wins_one (m : Int) : wins [m] = (m, 1) := rfl
theorem wins_U64 (l : List Int) : U64 (wins l).2 := by
  refine snoc_ind (P := fun l => U64 (wins l).2) ⟨by decide, by decide⟩ (fun l x ih => ?_) l
  by_cases h : l = []
  · subst h; exact ⟨(by decide : (0 : Int) ≤ 1), (by decide : (1 : Int) ≤ 18446744073709551615)⟩
  · rw [wins_snoc l x h]; exact mark_U64 _ _ _ ih
/-- The greatest. -/
def top (l : List Int) : Int := topTo l l.length
theorem top_snoc (l : List Int) (m : Int) (h : l ≠ []) : top (l ++ [m]) = max (top l) m := by
  unfold top topTo
  have : 0 < l.length := List.length_pos_iff.2 h
  have e : (l ++ [m]).getD 0 0 = l.getD 0 0 := by rw [List.getD_eq_getElem?_getD, List.getElem?_append_left this, ← List.getD_eq_getElem?_getD]
  rw [List.take_length, List.take_length, List.foldl_append, e]
  rfl
theorem wins_high (l : List Int) (h : l ≠ []) : (wins l).1 = top l := by
  revert h
  refine snoc_ind (P := fun l => l ≠ [] → (wins l).1 = top l) (fun h => absurd rfl h) (fun l x ih _ => ?_) l
  by_cases h : l = []
  · subst h; simp [wins, top, topTo]
  · rw [wins_snoc l x h, mark_high, ih h, top_snoc l x h]
theorem top_ge (l : List Int) : ∀ m ∈ l, m ≤ top l := by
  refine snoc_ind (P := fun l => ∀ m ∈ l, m ≤ top l) (fun m h => by cases h) (fun l x ih m hm => ?_) l
  by_cases h : l = []
  · subst h; simp at hm; subst hm; simp [top, topTo]
  · rw [top_snoc l x h]
    rcases List.mem_append.1 hm with h1 | h1
    · have := ih m h1; omega
    · simp at h1; omega
theorem wins_know (l : List Int) (m : Int) : l ≠ [] → know (wins l).1 (wins l).2 m = (decide (m ∈ l) && decide (top l - 64 < m)) := by
  refine snoc_ind (P := fun l => l ≠ [] → know (wins l).1 (wins l).2 m = (decide (m ∈ l) && decide (top l - 64 < m))) (fun h => absurd rfl h) (fun l x ih _ => ?_) l
  by_cases h : l = []
  · subst h
    simp only [List.nil_append, wins_one, List.mem_singleton]
    have ht : top [x] = x := by simp [top, topTo]
    simp only [ht]
    unfold know
    rw [show (1 : Int).toNat = 1 from rfl, tb_one]
    rw [Bool.eq_iff_iff]; simp; omega
  · have hw := wins_high l h
    rw [wins_snoc l x h, know_mark _ _ _ _ (wins_U64 l), ih h, top_snoc l x h, hw]
    by_cases hin : m ∈ l
    · have := top_ge l m hin
      rw [Bool.eq_iff_iff]; simp [hin]; omega
    · rw [Bool.eq_iff_iff]; simp [hin]; omega
theorem wins_odd (l : List Int) : l ≠ [] → (wins l).2 % 2 = 1 := by
  refine snoc_ind (P := fun l => l ≠ [] → (wins l).2 % 2 = 1) (fun h => absurd rfl h) (fun l x ih _ => ?_) l
  by_cases h : l = []
  · subst h; rfl
  · rw [wins_snoc l x h]; exact mark_odd _ _ _ (wins_U64 l) (ih h)

/-- How many near ones, each once, among the first j. -/
def cntTo (l : List Int) (t : Int) : Nat → Int
  | 0 => 0
  | j + 1 => cntTo l t j + if t - 64 < l.getD j 0 ∧ l.getD j 0 ∉ l.take j then 1 else 0
theorem cntTo_bd (l : List Int) (t : Int) : ∀ j : Nat, 0 ≤ cntTo l t j ∧ cntTo l t j ≤ j
  | 0 => by simp [cntTo]
  | j + 1 => by
    have := cntTo_bd l t j
    simp only [cntTo]
    split <;> omega
theorem filter_one (p q : Nat → Bool) (k0 : Nat) : ∀ n, k0 < n → p k0 = false → (∀ k, q k = (p k || decide (k = k0))) → ((List.range n).filter q).length = ((List.range n).filter p).length + 1
  | 0, h, _, _ => absurd h (by omega)
  | n + 1, h, hp, hq => by
    rw [List.range_succ, List.filter_append, List.filter_append, List.length_append, List.length_append]
    by_cases hn : k0 = n
    · subst hn
      have e : (List.range k0).filter q = (List.range k0).filter p := by
        apply List.filter_congr
        intro x hx
        have : x < k0 := List.mem_range.1 hx
        rw [hq x]
        have : x ≠ k0 := by omega
        simp [this]
      rw [e]
      have hqk : q k0 = true := by rw [hq]; simp
      simp [hp, hqk]
    · have ih := filter_one p q k0 n (by omega) hp hq
      have hqn : q n = p n := by
        rw [hq n]
        have : n ≠ k0 := by omega
        simp [this]
      rw [ih]
      by_cases hpn : p n = true
      · simp [hpn, hqn]
      · simp [hpn, hqn]
theorem cntTo_eq (l : List Int) (t : Int) (ht : ∀ m ∈ l, m ≤ t) : ∀ j, j ≤ l.length → (((List.range 64).filter fun k : Nat => decide (t - (k : Int) ∈ l.take j)).length : Int) = cntTo l t j
  | 0, _ => by simp [cntTo]
  | j + 1, hj => by
    have ih := cntTo_eq l t ht j (by omega)
    have hlt : j < l.length := by omega
    have hg : l.getD j 0 = l[j] := by simp [List.getD_eq_getElem?_getD, hlt]
    have hmem : l[j] ≤ t := ht _ (List.getElem_mem hlt)
    have hk : ∀ x : Int, x ∈ l.take (j + 1) ↔ x ∈ l.take j ∨ x = l[j] := by
      intro x
      rw [List.take_succ_eq_append_getElem hlt, List.mem_append, List.mem_singleton]
    simp only [cntTo, hg]
    by_cases hc : t - 64 < l[j] ∧ l[j] ∉ l.take j
    · rw [if_pos hc, ← ih]
      have := filter_one (fun k : Nat => decide (t - (k : Int) ∈ l.take j)) (fun k : Nat => decide (t - (k : Int) ∈ l.take (j + 1))) (t - l[j]).toNat 64 (by omega)
        (by simp only [decide_eq_false_iff_not]; rw [show t - ((t - l[j]).toNat : Int) = l[j] from by omega]; exact hc.2)
        (fun k => by
          rw [Bool.eq_iff_iff]; simp only [decide_eq_true_eq, Bool.or_eq_true, hk]
          constructor
          · rintro (h | h)
            · exact .inl h
            · exact .inr (by omega)
          · rintro (h | h)
            · exact .inl h
            · exact .inr (by omega))
      omega
    · rw [if_neg hc, ← ih, Int.add_zero]
      congr 2
      apply List.filter_congr
      intro k hkr
      have hk64 : k < 64 := List.mem_range.1 hkr
      rw [Bool.eq_iff_iff]; simp only [decide_eq_true_eq, hk]
      constructor
      · rintro (h | h)
        · exact h
        · by_cases hin : l[j] ∈ l.take j
          · rw [h]; exact hin
          · exact absurd ⟨by omega, hin⟩ hc
      · exact .inl
theorem wins_many (l : List Int) (h : l ≠ []) : many (wins l).2 = cntTo l (top l) l.length := by
  rw [← cntTo_eq l (top l) (top_ge l) l.length (Nat.le_refl _), List.take_length]
  unfold many
  congr 2
  apply List.filter_congr
  intro k hk
  have hk64 : k < 64 := List.mem_range.1 hk
  have h1 := wins_know l (top l - k) h
  rw [wins_high l h] at h1
  unfold know at h1
  have r : top l - (k : Int) ≤ top l ∧ top l - (top l - (k : Int)) ≤ 63 := by omega
  have r2 : top l - 64 < top l - (k : Int) := by omega
  simp only [r, r2, and_self, decide_true, Bool.true_and, Bool.and_true] at h1
  rw [show (top l - (top l - (k : Int))).toNat = k from by omega] at h1
  exact h1

/-- Did the number come, and is near, among the first j. -/
def cameTo (l : List Int) (t n : Int) (j : Nat) : Bool := decide (n ∈ l.take j) && decide (t - 64 < n)

theorem cameTo_succ (l : List Int) (t n : Int) (j : Nat) (h : j < l.length) : cameTo l t n (j + 1) = (cameTo l t n j || (l[j] == n && decide (t - 64 < l[j]))) := by
  have hm : n ∈ l.take (j + 1) ↔ n ∈ l.take j ∨ n = l[j] := by
    rw [List.take_succ_eq_append_getElem h, List.mem_append, List.mem_singleton]
  unfold cameTo
  rw [Bool.eq_iff_iff]
  simp only [Bool.and_eq_true, Bool.or_eq_true, decide_eq_true_eq, beq_iff_eq, hm]
  constructor
  · rintro ⟨h1 | h1, h2⟩
    · exact .inl ⟨h1, h2⟩
    · exact .inr ⟨h1.symm, h1 ▸ h2⟩
  · rintro (⟨h1, h2⟩ | ⟨h1, h2⟩)
    · exact ⟨.inl h1, h2⟩
    · exact ⟨.inr h1.symm, h1 ▸ h2⟩

theorem mem_take_succ (l : List Int) (x : Int) (i : Nat) (h : i < l.length) : decide (x ∈ l.take (i + 1)) = (decide (x ∈ l.take i) || (l[i] == x)) := by
  have hm : x ∈ l.take (i + 1) ↔ x ∈ l.take i ∨ x = l[i] := by
    rw [List.take_succ_eq_append_getElem h, List.mem_append, List.mem_singleton]
  rw [Bool.eq_iff_iff]
  simp only [Bool.or_eq_true, decide_eq_true_eq, beq_iff_eq, hm]
  constructor
  · rintro (h | h)
    · exact .inl h
    · exact .inr h.symm
  · rintro (h | h)
    · exact .inl h
    · exact .inr h.symm

end Go.Proofs.Ytiifoobkmojdcaa
