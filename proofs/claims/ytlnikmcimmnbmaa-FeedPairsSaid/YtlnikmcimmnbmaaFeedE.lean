/- Feedback messages: Right. -/
import Derived.Test.YtlnikmcimmnbmaaFeedD
namespace Go.Proofs.Ytlnikmcimmnbmaa
set_option linter.unusedSimpArgs false
set_option linter.unusedVariables false
open Go.RowKit
set_option maxRecDepth 100000

structure MsgS (w : World) (va vl : Value) (m : Msg) : Prop where
  asks : SlP 2 RAsk w va m.asks
  lost : SlI .u16 w vl m.lost
theorem MsgS.keep {w w' : World} {va vl : Value} {m : Msg} (h : MsgS w va vl m) (k : More w w') : MsgS w' va vl m := ⟨h.asks.keep keepsAsk k, h.lost.keep k⟩
theorem rightM_f1 {s d : Int} {ak : List (Int × Int)} {ls : List Int} (h : ¬ (ak = [] ∧ ls = [])) : rightM ⟨1, s, d, ak, ls⟩ = false := by unfold rightM; rw [if_pos rfl]; simpa using h
theorem rightM_f2 {s d : Int} {ak : List (Int × Int)} {ls : List Int} (h : ¬ (d = 0 ∧ 1 ≤ ak.length ∧ ak.length ≤ 23 ∧ ls = [])) : rightM ⟨2, s, d, ak, ls⟩ = false := by
  unfold rightM; rw [if_neg (show ¬ (2 : Int) = 1 by decide), if_pos rfl]; exact decide_eq_false h
theorem rightM_f3 {s d : Int} {ak : List (Int × Int)} {ls : List Int} (h : ¬ (ak = [] ∧ 1 ≤ ls.length ∧ riseB ls = true ∧ (pairsF ls).length ≤ 47)) : rightM ⟨3, s, d, ak, ls⟩ = false := by
  unfold rightM; rw [if_neg (show ¬ (3 : Int) = 1 by decide), if_neg (show ¬ (3 : Int) = 2 by decide), if_pos rfl]; exact decide_eq_false h
theorem rightM_t1 {s d : Int} : rightM ⟨1, s, d, [], []⟩ = true := rfl
theorem rightM_t2 {s d : Int} {ak : List (Int × Int)} {ls : List Int} (h : d = 0 ∧ 1 ≤ ak.length ∧ ak.length ≤ 23 ∧ ls = []) : rightM ⟨2, s, d, ak, ls⟩ = true := by
  unfold rightM; rw [if_neg (show ¬ (2 : Int) = 1 by decide), if_pos rfl]; exact decide_eq_true h
theorem rightM_t3 {s d : Int} {ak : List (Int × Int)} {ls : List Int} (h : ak = [] ∧ 1 ≤ ls.length ∧ riseB ls = true ∧ (pairsF ls).length ≤ 47) : rightM ⟨3, s, d, ak, ls⟩ = true := by
  unfold rightM; rw [if_neg (show ¬ (3 : Int) = 1 by decide), if_neg (show ¬ (3 : Int) = 2 by decide), if_pos rfl]; exact decide_eq_true h
theorem rightM_fk {k s d : Int} {ak : List (Int × Int)} {ls : List Int} (h1 : ¬ k = 1) (h2 : ¬ k = 2) (h3 : ¬ k = 3) : rightM ⟨k, s, d, ak, ls⟩ = false := by
  unfold rightM; rw [if_neg h1, if_neg h2, if_neg h3]
theorem len0 {α : Type} {l : List α} : l.length = 0 ↔ l = [] := List.length_eq_zero_iff
set_option maxHeartbeats 2000000 in
theorem Right09_1 (s d : Int) (ak : List (Int × Int)) (ls : List Int) (oa ol : Option Addr) (ka kl A L : Nat) (w : World) (HA : Hid (ak.length = A)) (HL : Hid (ls.length = L)) (SL : Hid (SlI .u16 w (.slice ol L kl) ls)) (UL : Hid (∀ x ∈ ls, U16 x)) (hl : L ≤ 100000) :
    Calls Try.prog 45 #[.agg #[.int .i64 1, .int .u32 s, .int .u32 d, .slice oa A ka, .slice ol L kl]] w fun e w' => e = .returned (.bool (rightM ⟨1, s, d, ak, ls⟩)) ∧ More w w' := by
  by_cases hA : A = 0
  · subst hA
    by_cases hL : L = 0
    · subst hL
      obtain rfl := len0.1 HA.out
      obtain rfl := len0.1 HL.out
      have HR := Lib.hid (rightM_t1 (s := s) (d := d))
      go_enter Try.func45, Try.ntmps45
      go_wp2
      go_ret
      exact ⟨by rw [HR.out]; try rfl, More.alloc _ _⟩
    · have bL : ((L : Int) == 0) = false := neB (by omega)
      have HR := Lib.hid (rightM_f1 (s := s) (d := d) (ak := ak) (ls := ls) (fun h => hL (by rw [← HL.out, h.2]; rfl)))
      clear hL
      go_enter Try.func45, Try.ntmps45
      go_wp2
      go_ret
      exact ⟨by rw [HR.out]; try rfl, More.alloc _ _⟩
  · have bA : ((A : Int) == 0) = false := neB (by omega)
    have HR := Lib.hid (rightM_f1 (s := s) (d := d) (ak := ak) (ls := ls) (fun h => hA (by rw [← HA.out, h.1]; rfl)))
    clear hA
    go_enter Try.func45, Try.ntmps45
    go_wp2
    go_ret
    exact ⟨by rw [HR.out]; try rfl, More.alloc _ _⟩
set_option maxHeartbeats 2000000 in
theorem Right09_2 (s d : Int) (ak : List (Int × Int)) (ls : List Int) (oa ol : Option Addr) (ka kl A L : Nat) (w : World) (hd : 0 ≤ d) (HA : Hid (ak.length = A)) (HL : Hid (ls.length = L)) (SL : Hid (SlI .u16 w (.slice ol L kl) ls)) (UL : Hid (∀ x ∈ ls, U16 x)) (hl : L ≤ 100000) :
    Calls Try.prog 45 #[.agg #[.int .i64 2, .int .u32 s, .int .u32 d, .slice oa A ka, .slice ol L kl]] w fun e w' => e = .returned (.bool (rightM ⟨2, s, d, ak, ls⟩)) ∧ More w w' := by
  by_cases hd0 : d = 0
  · subst hd0
    by_cases h1 : (1 : Int) ≤ (A : Int)
    · by_cases h23 : (A : Int) ≤ 23
      · by_cases hL : L = 0
        · subst hL
          have HR := Lib.hid (rightM_t2 (s := s) (d := 0) (ak := ak) (ls := ls) ⟨rfl, by rw [HA.out]; omega, by rw [HA.out]; omega, len0.1 HL.out⟩)
          go_enter Try.func45, Try.ntmps45
          go_wp2
          go_ret
          exact ⟨by rw [HR.out]; try rfl, More.alloc _ _⟩
        · have bL : ((L : Int) == 0) = false := neB (by omega)
          have HR := Lib.hid (rightM_f2 (s := s) (d := 0) (ak := ak) (ls := ls) (fun h => hL (by rw [← HL.out, h.2.2.2]; rfl)))
          clear hL
          go_enter Try.func45, Try.ntmps45
          go_wp2
          go_ret
          exact ⟨by rw [HR.out]; try rfl, More.alloc _ _⟩
      · skip
        have HR := Lib.hid (rightM_f2 (s := s) (d := 0) (ak := ak) (ls := ls) (fun h => h23 (by have := h.2.2.1; rw [HA.out] at this; omega)))
        go_enter Try.func45, Try.ntmps45
        go_wp2
        go_ret
        exact ⟨by rw [HR.out]; try rfl, More.alloc _ _⟩
    · skip
      have HR := Lib.hid (rightM_f2 (s := s) (d := 0) (ak := ak) (ls := ls) (fun h => h1 (by have := h.2.1; rw [HA.out] at this; omega)))
      go_enter Try.func45, Try.ntmps45
      go_wp2
      go_ret
      exact ⟨by rw [HR.out]; try rfl, More.alloc _ _⟩
  · have bd : (d == 0) = false := neB hd0
    have HR := Lib.hid (rightM_f2 (s := s) (d := d) (ak := ak) (ls := ls) (fun h => hd0 h.1))
    clear hd0
    go_enter Try.func45, Try.ntmps45
    go_wp2
    go_ret
    exact ⟨by rw [HR.out]; try rfl, More.alloc _ _⟩
set_option maxHeartbeats 2000000 in
theorem Right09_3 (s d : Int) (ak : List (Int × Int)) (ls : List Int) (oa ol : Option Addr) (ka kl A L : Nat) (w : World) (HA : Hid (ak.length = A)) (HL : Hid (ls.length = L)) (SL : Hid (SlI .u16 w (.slice ol L kl) ls)) (UL : Hid (∀ x ∈ ls, U16 x)) (hl : L ≤ 100000) :
    Calls Try.prog 45 #[.agg #[.int .i64 3, .int .u32 s, .int .u32 d, .slice oa A ka, .slice ol L kl]] w fun e w' => e = .returned (.bool (rightM ⟨3, s, d, ak, ls⟩)) ∧ More w w' := by
  have M0 := Lib.hid (More.alloc w (.cells #[.int .i64 3, .int .u32 s, .int .u32 d, .slice oa A ka, .slice ol L kl] 85))
  by_cases hA : A = 0
  · subst hA
    by_cases h1 : (1 : Int) ≤ (L : Int)
    · cases hri : riseB ls with
      | true =>
        have HRI := Lib.hid hri
        by_cases h47 : ((pairsF ls).length : Int) ≤ 47
        · have hb := decide_eq_true h47
          have HR := Lib.hid (rightM_t3 (s := s) (d := d) (ak := ak) (ls := ls) ⟨len0.1 HA.out, by rw [HL.out]; omega, hri, by omega⟩)
          clear hri
          go_enter Try.func45, Try.ntmps45
          go_wp2_with (first | (go_at_call 109; ((with_reducible refine (Rising_any ls _ _ (SL.out.keep M0.out) UL.out).mono ?_); rintro e w3 ⟨rfl, m3⟩; rw [HRI.out]; have M3 := Lib.hid (M0.out.trans m3); have B3 := Lib.hid (blk_more m3 (blk_new w (.cells #[.int .i64 3, .int .u32 s, .int .u32 d, .slice oa 0 ka, .slice ol L kl] 85))); clear m3; have x4 := blk_cell B3.out 4 (v := .slice ol L kl) rfl)) | (go_at_call 110; ((with_reducible refine (Pairs_any ls _ _ (SL.out.keep M3.out) UL.out HRI.out (by rw [HL.out]; exact hl)).mono ?_); rintro e w4 ⟨v4, rfl, o4, m4⟩; have M4 := Lib.hid (M3.out.trans m4); obtain ⟨o5, c5, rfl, -⟩ := row_shape o4; clear m4 o4)))
          go_ret
          exact ⟨by rw [HR.out]; try rfl, M4.out⟩
        · have hb := decide_eq_false h47
          have HR := Lib.hid (rightM_f3 (s := s) (d := d) (ak := ak) (ls := ls) (fun h => h47 (by have := h.2.2.2; omega)))
          clear hri
          go_enter Try.func45, Try.ntmps45
          go_wp2_with (first | (go_at_call 109; ((with_reducible refine (Rising_any ls _ _ (SL.out.keep M0.out) UL.out).mono ?_); rintro e w3 ⟨rfl, m3⟩; rw [HRI.out]; have M3 := Lib.hid (M0.out.trans m3); have B3 := Lib.hid (blk_more m3 (blk_new w (.cells #[.int .i64 3, .int .u32 s, .int .u32 d, .slice oa 0 ka, .slice ol L kl] 85))); clear m3; have x4 := blk_cell B3.out 4 (v := .slice ol L kl) rfl)) | (go_at_call 110; ((with_reducible refine (Pairs_any ls _ _ (SL.out.keep M3.out) UL.out HRI.out (by rw [HL.out]; exact hl)).mono ?_); rintro e w4 ⟨v4, rfl, o4, m4⟩; have M4 := Lib.hid (M3.out.trans m4); obtain ⟨o5, c5, rfl, -⟩ := row_shape o4; clear m4 o4)))
          go_ret
          exact ⟨by rw [HR.out]; try rfl, M4.out⟩
      | false =>
        have HRI := Lib.hid hri
        have HR := Lib.hid (rightM_f3 (s := s) (d := d) (ak := ak) (ls := ls) (fun h => by rw [hri] at h; exact absurd h.2.2.1 (by decide)))
        clear hri
        go_enter Try.func45, Try.ntmps45
        go_wp2_with (first | (go_at_call 109; ((with_reducible refine (Rising_any ls _ _ (SL.out.keep M0.out) UL.out).mono ?_); rintro e w3 ⟨rfl, m3⟩; rw [HRI.out]; have M3 := Lib.hid (M0.out.trans m3); have B3 := Lib.hid (blk_more m3 (blk_new w (.cells #[.int .i64 3, .int .u32 s, .int .u32 d, .slice oa 0 ka, .slice ol L kl] 85))); clear m3; have x4 := blk_cell B3.out 4 (v := .slice ol L kl) rfl)))
        go_ret
        exact ⟨by rw [HR.out]; try rfl, M3.out⟩
    · skip
      have HR := Lib.hid (rightM_f3 (s := s) (d := d) (ak := ak) (ls := ls) (fun h => h1 (by have := h.2.1; rw [HL.out] at this; omega)))
      go_enter Try.func45, Try.ntmps45
      go_wp2
      go_ret
      exact ⟨by rw [HR.out]; try rfl, More.alloc _ _⟩
  · have bA : ((A : Int) == 0) = false := neB (by omega)
    have HR := Lib.hid (rightM_f3 (s := s) (d := d) (ak := ak) (ls := ls) (fun h => hA (by rw [← HA.out, h.1]; rfl)))
    clear hA
    go_enter Try.func45, Try.ntmps45
    go_wp2
    go_ret
    exact ⟨by rw [HR.out]; try rfl, More.alloc _ _⟩
set_option maxHeartbeats 2000000 in
theorem Right09_k (k s d : Int) (ak : List (Int × Int)) (ls : List Int) (oa ol : Option Addr) (ka kl A L : Nat) (w : World) (h1 : ¬ k = 1) (h2 : ¬ k = 2) (h3 : ¬ k = 3) (HA : Hid (ak.length = A)) (HL : Hid (ls.length = L)) (SL : Hid (SlI .u16 w (.slice ol L kl) ls)) (UL : Hid (∀ x ∈ ls, U16 x)) (hl : L ≤ 100000) :
    Calls Try.prog 45 #[.agg #[.int .i64 k, .int .u32 s, .int .u32 d, .slice oa A ka, .slice ol L kl]] w fun e w' => e = .returned (.bool (rightM ⟨k, s, d, ak, ls⟩)) ∧ More w w' := by
  have b1 := neB h1
  have b2 := neB h2
  have b3 := neB h3
  have HR := Lib.hid (rightM_fk (s := s) (d := d) (ak := ak) (ls := ls) h1 h2 h3)
  clear h1 h2 h3
  go_enter Try.func45, Try.ntmps45
  go_wp2
  go_ret
  exact ⟨by rw [HR.out]; try rfl, More.alloc _ _⟩
theorem Right09_any (m : Msg) (va vl : Value) (w : World) (h : MsgS w va vl m) (ok : MsgOK m) (hl : m.lost.length ≤ 100000) :
    Calls Try.prog 45 #[.agg #[.int .i64 m.kind, .int .u32 m.snd, .int .u32 m.med, va, vl]] w fun e w' => e = .returned (.bool (rightM m)) ∧ More w w' := by
  obtain ⟨k, s, d, ak, ls⟩ := m
  obtain ⟨ha, hlo⟩ := h
  simp only at *
  have SL := Lib.hid hlo
  obtain ⟨oa, ka, rfl, -⟩ := ha
  obtain ⟨ol, kl, rfl, -⟩ := hlo
  by_cases h1 : k = 1
  · subst h1; exact Right09_1 s d ak ls oa ol ka kl _ _ w (Lib.hid rfl) (Lib.hid rfl) SL (Lib.hid ok.lost) hl
  by_cases h2 : k = 2
  · subst h2; exact Right09_2 s d ak ls oa ol ka kl _ _ w ok.med.1 (Lib.hid rfl) (Lib.hid rfl) SL (Lib.hid ok.lost) hl
  by_cases h3 : k = 3
  · subst h3; exact Right09_3 s d ak ls oa ol ka kl _ _ w (Lib.hid rfl) (Lib.hid rfl) SL (Lib.hid ok.lost) hl
  exact Right09_k k s d ak ls oa ol ka kl _ _ w h1 h2 h3 (Lib.hid rfl) (Lib.hid rfl) SL (Lib.hid ok.lost) hl
end Go.Proofs.Ytlnikmcimmnbmaa
