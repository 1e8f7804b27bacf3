/- Readers: the state, plain; bytes of numbers. -/
import Derived.Test.YtlnikmcimmnbmaaWireC
namespace Go.Proofs.Ytlnikmcimmnbmaa
set_option linter.unusedSimpArgs false
set_option linter.unusedVariables false
open Go.RowKit
set_option maxRecDepth 100000

theorem bysA_len2 (n s : Int) (hs : 0 ≤ s ∧ s ≤ 8) : (bysA n s).length = s.toNat := by
  rw [bysA_pos n s hs, bys_length]
theorem num_bysA (x : Int) (k : Nat) (hx : 0 ≤ x) (h8 : k ≤ 8) (h : x < 2 ^ (8 * k)) : num (bysA x k) = x := by
  have e1 : bysA x k = bys x k := by rw [bysA_pos _ _ (by omega)]; simp
  rw [e1, num_eq_numE _ (Byt_bys _ _) (by rw [bys_length]; exact h8), numE_bys]
  exact Int.emod_eq_of_lt hx h
theorem tk_join {l : List Int} {n : Int} (h0 : 0 ≤ n) (h : n ≤ l.length) : l = tkB l n ++ tkL l n ∧ ((tkB l n).length : Int) = n := by
  unfold tkB tkL
  rw [if_pos h]
  refine ⟨(List.take_append_drop _ _).symm, ?_⟩
  rw [List.length_take]; omega
theorem bysA_num {l : List Int} (h : Byt l) (k : Nat) (hl : (l.length : Int) = k) (h8 : k ≤ 8) : bysA (num l) k = l := by
  have hl2 : l.length = k := by omega
  rw [bysA_pos _ _ (by omega)]
  simp only [Int.toNat_natCast]
  rw [← hl2]
  exact bys_num l h (by omega)
/-- A reader's state: what is left, what went wrong. -/
abbrev RdS := List Int × Int
def wrS (s : RdS) (x : Int) : RdS := if x = 0 ∨ ¬ s.2 = 0 then s else ([], x)
def tkS (s : RdS) (n : Int) : RdS := (tkL s.1 n, tkE s.1 n s.2)
theorem RdWrong_any {w : World} {R : Nat} {s : RdS} {C : Nat → Prop} (h : ReaderAt w R s.1 s.2 C) (x : Int) :
    Calls Try.prog 90 #[.pointer (some ⟨R, 0, none⟩), .int .i64 x] w fun e' w' => e' = .returned (.tuple #[]) ∧ ReaderAt w' R (wrS s x).1 (wrS s x).2 C ∧ Away (fun b => b = R) w w' := by
  obtain ⟨l, e⟩ := s
  simp only at h
  by_cases hx : x = 0
  · refine (RdWrong_no h x (Or.inl hx)).mono ?_
    rintro e' w' ⟨rfl, rfl⟩
    have : wrS (l, e) x = (l, e) := by unfold wrS; rw [if_pos (Or.inl hx)]
    rw [this]; exact ⟨rfl, h, Away.refl _ _⟩
  · by_cases he : e = 0
    · subst he
      refine (RdWrong_yes h x hx).mono ?_
      rintro e' w' ⟨rfl, h2, a2⟩
      have : wrS (l, 0) x = ([], x) := by unfold wrS; rw [if_neg (by simp [hx])]
      rw [this]; exact ⟨rfl, h2, a2⟩
    · refine (RdWrong_no h x (Or.inr ⟨hx, he⟩)).mono ?_
      rintro e' w' ⟨rfl, rfl⟩
      have : wrS (l, e) x = (l, e) := by unfold wrS; rw [if_pos (Or.inr he)]
      rw [this]; exact ⟨rfl, h, Away.refl _ _⟩
abbrev U32 (n : Int) : Prop := 0 ≤ n ∧ n ≤ 4294967295
/-- So many bytes on. -/
def adv (s : RdS) (n : Nat) : RdS := if s.2 = 0 then (if n ≤ s.1.length then (s.1.drop n, 0) else ([], 3)) else ([], s.2)
def Shut (s : RdS) : Prop := ¬ s.2 = 0 → s.1 = []
theorem tkS_adv {s : RdS} (n : Nat) (h : Shut s) : tkS s n = adv s n := by
  obtain ⟨l, e⟩ := s
  unfold tkS adv tkL tkE
  simp only [Int.toNat_natCast]
  by_cases he : e = 0
  · subst he
    rw [if_pos rfl]
    by_cases hn : n ≤ l.length
    · rw [if_pos hn, if_neg (by omega)]
    · rw [if_neg hn, if_pos (by omega), List.drop_eq_nil_of_le (by omega)]
  · have h0 : l = [] := h he
    subst h0
    rw [if_neg he, if_neg (fun x => he x.2)]
    simp
theorem adv_shut (s : RdS) (n : Nat) : Shut (adv s n) := by
  unfold Shut adv
  split
  · split
    · intro h; exact absurd rfl h
    · intro _; rfl
  · intro _; rfl
theorem adv_adv (s : RdS) (a b : Nat) : adv (adv s a) b = adv s (a + b) := by
  obtain ⟨l, e⟩ := s
  unfold adv
  simp only
  by_cases he : e = 0
  · subst he
    simp only [if_true]
    by_cases ha : a ≤ l.length
    · rw [if_pos ha]
      simp only [if_true, List.length_drop, List.drop_drop]
      by_cases hb : a + b ≤ l.length
      · rw [if_pos (by omega), if_pos hb]
      · rw [if_neg (by omega), if_neg hb]
    · rw [if_neg ha]
      simp
      omega
  · rw [if_neg he, if_neg he]
    simp [he]
theorem tkS_adv2 {s : RdS} (a b : Nat) : tkS (adv s a) b = adv s (a + b) := by rw [tkS_adv b (adv_shut s a), adv_adv]
theorem adv_zero {s : RdS} (h : Shut s) : adv s 0 = s := by
  obtain ⟨l, e⟩ := s
  unfold adv
  by_cases he : e = 0
  · subst he; simp
  · have h0 : l = [] := h he
    subst h0; simp [he]
theorem bysA_mod3 (x : Int) : bysA (x % 16777216) 3 = bysA x 3 := by
  have h : ∀ j, j < 3 → by8 (x % 16777216) j = by8 x j := by
    intro j hj
    unfold by8
    match j, hj with
    | 0, _ => simp
    | 1, _ => simp; omega
    | 2, _ => simp; omega
  show [by8 (x % 16777216) 2, by8 (x % 16777216) 1, by8 (x % 16777216) 0] = [by8 x 2, by8 x 1, by8 x 0]
  rw [h 0 (by decide), h 1 (by decide), h 2 (by decide)]
theorem tkS_bysA (x : Int) (k : Nat) (h8 : k ≤ 8) (r : List Int) : tkS (bysA x k ++ r, 0) k = (r, 0) ∧ tkB (bysA x k ++ r) k = bysA x k := by
  have hl : ((bysA x k).length : Int) = k := by rw [bysA_len2 _ _ (by omega)]; simp
  have a := tkB_app (bysA x k) r
  have b := tkL_app (bysA x k) r
  have c := tkE_app (bysA x k) r 0
  rw [hl] at a b c
  unfold tkS
  simp only [a, b, c, and_self]
theorem num_exists (k : Nat) (h8 : k ≤ 8) {L : List Int} (hb : Byt L) (h : k ≤ L.length) : ∃ x r, L = bysA x k ++ r ∧ 0 ≤ x ∧ x < 2 ^ (8 * k) ∧ Byt r := by
  obtain ⟨j, q⟩ := tk_join (l := L) (n := (k : Int)) (by omega) (by omega)
  have hn := num_lt (tkB L k) k (tkB_byt hb k) (by omega) h8
  refine ⟨num (tkB L k), tkL L k, ?_, hn.1, hn.2, hb.drop _⟩
  rw [bysA_num (tkB_byt hb k) k q h8]
  exact j
theorem u32_exists {L : List Int} (hb : Byt L) (h : 4 ≤ L.length) : ∃ x r, L = bysA x 4 ++ r ∧ U32 x ∧ Byt r := by
  obtain ⟨x, r, h1, h2, h3, h4⟩ := num_exists 4 (by decide) hb h
  have h3 : x < 4294967296 := h3
  exact ⟨x, r, h1, ⟨h2, by omega⟩, h4⟩
end Go.Proofs.Ytlnikmcimmnbmaa
