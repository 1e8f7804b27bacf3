/- The law WireBack: the plain part. -/
import Derived.Test.YtaobhpaabnljpaaWireH
import Derived.Test.YtaobhpaabnljpaaPlainB
namespace Go.Proofs.Ytaobhpaabnljpaa
open Go.RowKit
set_option maxRecDepth 100000

theorem flB_drop (l : List Thing) (j : Nat) (h : j < l.length) : flB (l.drop j) = thB (l.getD j thing0) ++ flB (l.drop (j + 1)) := by
  unfold flB
  rw [List.drop_eq_getElem_cons h, List.flatMap_cons]
  simp [h]
theorem flB_end (l : List Thing) : flB (l.drop l.length) = [] := by simp [flB]
theorem rdN_len (t : Thing) : rdN t = (thB t).length := by
  unfold rdN thB
  split
  · rename_i h; rw [bysA_len _ _ (by omega)]
  · split <;> rfl
theorem tkB_app (a b : List Int) : tkB (a ++ b) a.length = a := by
  unfold tkB; rw [if_pos (by simp; omega)]; simp
theorem tkL_app (a b : List Int) : tkL (a ++ b) a.length = b := by
  unfold tkL; simp
theorem tkE_app (a b : List Int) (e : Int) : tkE (a ++ b) a.length e = e := by
  unfold tkE; rw [if_neg (by simp; omega)]
theorem rdOK_app (t : Thing) (r : List Int) (hn : 0 ≤ t.2.1 ∧ t.2.1 ≤ 4294967295) : rdOK (thB t ++ r) t = true := by
  unfold rdOK
  have h0 := tkB_app (thB t) r
  rw [← rdN_len] at h0
  unfold rdN at h0
  split
  · rename_i h
    rw [if_pos h] at h0
    rw [h0]
    obtain ⟨k, hk⟩ : ∃ k : Nat, t.1 = k := ⟨t.1.toNat, by omega⟩
    have : thB t = bys t.2.1 k := by unfold thB; rw [if_pos h, bysA_pos _ _ (by omega), hk]; simp
    rw [this, num_bys _ _ (by unfold U64; omega) (by omega), hk, fld_low _ _ (by omega) (by omega)]
    simp
  · rename_i h
    split
    · rename_i h5
      rw [if_neg h, if_pos h5] at h0
      have : thB t = t.2.2.1 := by unfold thB; rw [if_neg h, if_pos h5]
      rw [h0, this]; simp
    · rfl
theorem byt_app {a b : List Int} (ha : Byt a) (hb : Byt b) : Byt (a ++ b) := by
  intro i
  by_cases h : i < a.length
  · have := ha i
    rw [List.getD_eq_getElem?_getD] at this ⊢
    rw [List.getElem?_append_left h]; exact this
  · have := hb (i - a.length)
    rw [List.getD_eq_getElem?_getD] at this ⊢
    rw [List.getElem?_append_right (by omega)]; exact this
theorem thB_byt (t : Thing) (h : Byt t.2.2.1) : Byt (thB t) := by
  unfold thB; split
  · rw [bysA_pos _ _ (by omega)]; exact Byt_bys _ _
  · split
    · exact h
    · exact byt_nil
theorem flB_byt (l : List Thing) : (∀ i, i < l.length → Byt (l.getD i thing0).2.2.1) → Byt (flB l) := by
  induction l with
  | nil => intro _; exact byt_nil
  | cons t l ih =>
    intro h
    have e : flB (t :: l) = thB t ++ flB l := rfl
    rw [e]
    exact byt_app (thB_byt t (h 0 (by simp))) (ih fun i hi => h (i + 1) (by simp; omega))
theorem flB_len (l : List Thing) : (∀ i, i < l.length → (l.getD i thing0).2.2.1.length ≤ 40) → (flB l).length ≤ 40 * l.length := by
  induction l with
  | nil => intro _; simp [flB]
  | cons t l ih =>
    intro h
    have e : flB (t :: l) = thB t ++ flB l := rfl
    have h1 := thB_len t (h 0 (by simp))
    have h2 := ih fun i hi => h (i + 1) (by simp; omega)
    rw [e]
    simp
    omega
/-- A reader of bytes that were cut: fine so far, or short. -/
def CutAt (L M : List Int) (E : Int) : Prop := (E = 0 ∧ ∃ m, L = M.take m ∧ m < M.length) ∨ (E = 3 ∧ L = [])
theorem CutAt.step {L r : List Int} {E : Int} {t : Thing} (h : CutAt L (thB t ++ r) E) : CutAt (tkL L (rdN t)) r (tkE L (rdN t) E) := by
  rw [rdN_len]
  rcases h with ⟨rfl, m, rfl, hm⟩ | ⟨rfl, rfl⟩
  · simp at hm
    by_cases h : (thB t).length ≤ m
    · refine Or.inl ⟨?_, m - (thB t).length, ?_, by omega⟩
      · unfold tkE; rw [if_neg (by simp; omega)]
      · unfold tkL
        rw [List.take_append]
        simp [h]
    · refine Or.inr ⟨?_, ?_⟩
      · unfold tkE; rw [if_pos (by simp; omega)]
      · unfold tkL; exact List.drop_eq_nil_of_le (by simp; omega)
  · exact Or.inr ⟨tkE_shut (by decide), by unfold tkL; simp⟩
theorem CutAt.done {L : List Int} {E : Int} (h : CutAt L [] E) : E = 3 ∧ L = [] := by
  rcases h with ⟨_, m, _, hm⟩ | h
  · simp at hm
  · exact h
theorem RdEnd_ok {w : World} {R : Nat} (h : ReaderAt w R [] 0) :
    Calls Try.prog 34 #[.pointer (some ⟨R, 0, none⟩)] w fun e' w' => e' = .returned (.int .i64 0) ∧ w' = w := RdEnd_any h
theorem RdEnd_long {w : World} {R : Nat} {l : List Int} (h : ReaderAt w R l 0) (hl : 0 < l.length) :
    Calls Try.prog 34 #[.pointer (some ⟨R, 0, none⟩)] w fun e' w' => e' = .returned (.int .i64 4) ∧ w' = w := by
  refine (RdEnd_any h).mono ?_
  rintro e' w' ⟨rfl, rfl⟩
  exact ⟨by rw [if_neg (by simp), if_pos hl], rfl⟩
end Go.Proofs.Ytaobhpaabnljpaa
