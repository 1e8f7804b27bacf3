/- Merged from my texts FeedD, FeedE. -/
import Derived.Test.YtlnikmcimmnbmaaMg15
/- Feedback messages: the kind of a chunk; Right. -/
namespace Go.Proofs.Ytlnikmcimmnbmaa
set_option linter.unusedSimpArgs false
set_option linter.unusedVariables false
open Go.RowKit
set_option maxRecDepth 100000

theorem kindC_1 {n t : Int} {b : List Int} (h : t = 206 ∧ n = 1) : kindC (n, t, b, ()) = 1 := by unfold kindC; rw [if_pos h]
theorem kindC_2 {n t : Int} {b : List Int} (h : t = 206 ∧ n = 4) : kindC (n, t, b, ()) = 2 := by unfold kindC; rw [if_neg (by simp only; omega), if_pos h]
theorem kindC_3 {n t : Int} {b : List Int} (h : t = 205 ∧ n = 1) : kindC (n, t, b, ()) = 3 := by unfold kindC; rw [if_neg (by simp only; omega), if_neg (by simp only; omega), if_pos h]
theorem kindC_0 {n t : Int} {b : List Int} (h1 : ¬ (t = 206 ∧ n = 1)) (h2 : ¬ (t = 206 ∧ n = 4)) (h3 : ¬ (t = 205 ∧ n = 1)) : kindC (n, t, b, ()) = 0 := by unfold kindC; rw [if_neg h1, if_neg h2, if_neg h3]
theorem Form_1 (w : World) : Calls Try.prog 111 #[.int .i64 1] w fun e w' => e = .returned (.tuple #[.int .u8 206, .int .u8 1]) ∧ w = w' := Form_any 1 w
theorem Form_2 (w : World) : Calls Try.prog 111 #[.int .i64 2] w fun e w' => e = .returned (.tuple #[.int .u8 206, .int .u8 4]) ∧ w = w' := Form_any 2 w
theorem Form_3 (w : World) : Calls Try.prog 111 #[.int .i64 3] w fun e w' => e = .returned (.tuple #[.int .u8 205, .int .u8 1]) ∧ w = w' := Form_any 3 w
theorem eqB {a b : Int} (h : a = b) : (a == b) = true := by simpa using h
theorem neB {a b : Int} (h : ¬ a = b) : (a == b) = false := by simpa using h
set_option maxHeartbeats 2000000 in
theorem KindOf_any (n t : Int) (B : List Int) (ob : Option Addr) (cb : Nat) (w : World) :
    Calls Try.prog 106 #[.agg #[.int .u8 n, .int .u8 t, .slice ob B.length cb]] w fun e w' => e = .returned (.int .i64 (kindC (n, t, B, ()))) ∧ More w w' := by
  go_enter Try.func106, Try.ntmps106
  go_wp2
  go_loopw [9] (fun ix wr => ∃ j : Nat, j ≤ 3 ∧ ix = .int .i64 j ∧ (1 ≤ j → ¬ (t = 206 ∧ n = 1)) ∧ (2 ≤ j → ¬ (t = 206 ∧ n = 4)) ∧ (3 ≤ j → ¬ (t = 205 ∧ n = 1)) ∧ More ((w.alloc (.cells #[.int .u8 n, .int .u8 t, .slice ob B.length cb] 30)).alloc (.cells #[.int .i64 1, .int .i64 2, .int .i64 3] 3)) wr) (fun ix _ => 3 - (intOf ix).toNat)
  case atStart => exact ⟨0, by omega, rfl, (fun h => by omega), (fun h => by omega), (fun h => by omega), More.refl _⟩
  case round =>
    obtain ⟨j, hj, rfl, k1, k2, k3, hm⟩ := hrel
    have K1 := Lib.hid k1
    have K2 := Lib.hid k2
    have K3 := Lib.hid k3
    clear k1 k2 k3
    have M0 := Lib.hid (((More.alloc w (.cells #[.int .u8 n, .int .u8 t, .slice ob B.length cb] 30)).al (.cells #[.int .i64 1, .int .i64 2, .int .i64 3] 3)).trans hm)
    have f0 := blk_cell (blk_more hm (blk_alloc (blk_new w (.cells #[.int .u8 n, .int .u8 t, .slice ob B.length cb] 30)) (.cells #[.int .i64 1, .int .i64 2, .int .i64 3] 3))) 0 (v := .int .u8 n) rfl
    have f1 := blk_cell (blk_more hm (blk_alloc (blk_new w (.cells #[.int .u8 n, .int .u8 t, .slice ob B.length cb] 30)) (.cells #[.int .i64 1, .int .i64 2, .int .i64 3] 3))) 1 (v := .int .u8 t) rfl
    have l0 := blk_cell (blk_more hm (blk_new2 (w := w.alloc (.cells #[.int .u8 n, .int .u8 t, .slice ob B.length cb] 30)) (o := (.cells #[.int .i64 1, .int .i64 2, .int .i64 3] 3)) (n := w.heap.size + 1) (by simp))) 0 (v := .int .i64 1) rfl
    have l1 := blk_cell (blk_more hm (blk_new2 (w := w.alloc (.cells #[.int .u8 n, .int .u8 t, .slice ob B.length cb] 30)) (o := (.cells #[.int .i64 1, .int .i64 2, .int .i64 3] 3)) (n := w.heap.size + 1) (by simp))) 1 (v := .int .i64 2) rfl
    have l2 := blk_cell (blk_more hm (blk_new2 (w := w.alloc (.cells #[.int .u8 n, .int .u8 t, .slice ob B.length cb] 30)) (o := (.cells #[.int .i64 1, .int .i64 2, .int .i64 3] 3)) (n := w.heap.size + 1) (by simp))) 2 (v := .int .i64 3) rfl
    have HM := Lib.hid hm
    clear hm
    by_cases e0 : j = 0
    · subst e0
      by_cases ht : t = 206
      · have bt := eqB ht
        by_cases hn : n = 1
        · have bn := eqB hn
          have HX := Lib.hid (kindC_1 (b := B) ⟨ht, hn⟩)
          clear ht hn
          go_wp2_with (go_at_call 111; ((with_reducible refine (Form_1 _).mono ?_); rintro e w3 ⟨rfl, rfl⟩))
          go_ret
          exact ⟨by rw [HX.out]; rfl, M0.out⟩
        · have bn := neB hn
          have HN := Lib.hid hn
          clear ht hn
          go_wp2_with (go_at_call 111; ((with_reducible refine (Form_1 _).mono ?_); rintro e w3 ⟨rfl, rfl⟩))
          go_roundw
          case rel => exact ⟨1, by omega, by first | rfl | go_num, (fun _ => (fun h => HN.out h.2)), (fun h => by omega), (fun h => by omega), HM.out⟩
          case measure => simp [intOf]
      · have bt := neB ht
        have HN := Lib.hid ht
        clear ht
        go_wp2_with (go_at_call 111; ((with_reducible refine (Form_1 _).mono ?_); rintro e w3 ⟨rfl, rfl⟩))
        go_roundw
        case rel => exact ⟨1, by omega, by first | rfl | go_num, (fun _ => (fun h => HN.out h.1)), (fun h => by omega), (fun h => by omega), HM.out⟩
        case measure => simp [intOf]
    by_cases e1 : j = 1
    · subst e1
      clear e0
      by_cases ht : t = 206
      · have bt := eqB ht
        by_cases hn : n = 4
        · have bn := eqB hn
          have HX := Lib.hid (kindC_2 (b := B) ⟨ht, hn⟩)
          clear ht hn
          go_wp2_with (go_at_call 111; ((with_reducible refine (Form_2 _).mono ?_); rintro e w3 ⟨rfl, rfl⟩))
          go_ret
          exact ⟨by rw [HX.out]; rfl, M0.out⟩
        · have bn := neB hn
          have HN := Lib.hid hn
          clear ht hn
          go_wp2_with (go_at_call 111; ((with_reducible refine (Form_2 _).mono ?_); rintro e w3 ⟨rfl, rfl⟩))
          go_roundw
          case rel => exact ⟨2, by omega, by first | rfl | go_num, (fun _ => K1.out (by omega)), (fun _ => (fun h => HN.out h.2)), (fun h => by omega), HM.out⟩
          case measure => simp [intOf]
      · have bt := neB ht
        have HN := Lib.hid ht
        clear ht
        go_wp2_with (go_at_call 111; ((with_reducible refine (Form_2 _).mono ?_); rintro e w3 ⟨rfl, rfl⟩))
        go_roundw
        case rel => exact ⟨2, by omega, by first | rfl | go_num, (fun _ => K1.out (by omega)), (fun _ => (fun h => HN.out h.1)), (fun h => by omega), HM.out⟩
        case measure => simp [intOf]
    by_cases e2 : j = 2
    · subst e2
      clear e0 e1
      by_cases ht : t = 205
      · have bt := eqB ht
        by_cases hn : n = 1
        · have bn := eqB hn
          have HX := Lib.hid (kindC_3 (b := B) ⟨ht, hn⟩)
          clear ht hn
          go_wp2_with (go_at_call 111; ((with_reducible refine (Form_3 _).mono ?_); rintro e w3 ⟨rfl, rfl⟩))
          go_ret
          exact ⟨by rw [HX.out]; rfl, M0.out⟩
        · have bn := neB hn
          have HN := Lib.hid hn
          clear ht hn
          go_wp2_with (go_at_call 111; ((with_reducible refine (Form_3 _).mono ?_); rintro e w3 ⟨rfl, rfl⟩))
          go_roundw
          case rel => exact ⟨3, by omega, by first | rfl | go_num, (fun _ => K1.out (by omega)), (fun _ => K2.out (by omega)), (fun _ => (fun h => HN.out h.2)), HM.out⟩
          case measure => simp [intOf]
      · have bt := neB ht
        have HN := Lib.hid ht
        clear ht
        go_wp2_with (go_at_call 111; ((with_reducible refine (Form_3 _).mono ?_); rintro e w3 ⟨rfl, rfl⟩))
        go_roundw
        case rel => exact ⟨3, by omega, by first | rfl | go_num, (fun _ => K1.out (by omega)), (fun _ => K2.out (by omega)), (fun _ => (fun h => HN.out h.1)), HM.out⟩
        case measure => simp [intOf]
    · obtain rfl : j = 3 := by omega
      have HX := Lib.hid (kindC_0 (b := B) (K1.out (by omega)) (K2.out (by omega)) (K3.out (by omega)))
      clear e0 e1 e2
      go_wp2
      go_ret
      exact ⟨by rw [HX.out]; rfl, M0.out⟩
end Go.Proofs.Ytlnikmcimmnbmaa
/- Feedback messages: Right. -/
namespace Go.Proofs.Ytlnikmcimmnbmaa
set_option linter.unusedSimpArgs false
set_option linter.unusedVariables false
open Go.RowKit
set_option maxRecDepth 100000

structure MsgS (w : World) (va vl : Value) (m : Msg) : Prop where
  asks : SlP 2 RAsk w va m.asks
  lost : SlI .u16 w vl m.lost
theorem MsgS.keep {w w' : World} {va vl : Value} {m : Msg} (h : MsgS w va vl m) (k : More w w') : MsgS w' va vl m := ⟨h.asks.keep keepsAsk k, h.lost.keep k⟩
theorem rightM_f1 {s d : Int} {ak : List (Int × Int)} {ls : List Int} (h : ¬ (ak = [] ∧ ls = [])) : rightM ⟨1, s, d, ak, ls⟩ = false := by unfold rightM; rw [if_pos rfl]; simpa using h
theorem rightM_f2 {s d : Int} {ak : List (Int × Int)} {ls : List Int} (h : ¬ (d = 0 ∧ 1 ≤ ak.length ∧ ak.length ≤ 23 ∧ ls = [])) : rightM ⟨2, s, d, ak, ls⟩ = false := by
  unfold rightM; rw [if_neg (show ¬ (2 : Int) = 1 by decide), if_pos rfl]; exact decide_eq_false h
theorem rightM_f3 {s d : Int} {ak : List (Int × Int)} {ls : List Int} (h : ¬ (ak = [] ∧ 1 ≤ ls.length ∧ riseB ls = true ∧ (pairsF ls).length ≤ 47)) : rightM ⟨3, s, d, ak, ls⟩ = false := by
  unfold rightM; rw [if_neg (show ¬ (3 : Int) = 1 by decide), if_neg (show ¬ (3 : Int) = 2 by decide), if_pos rfl]; exact decide_eq_false h
theorem rightM_t1 {s d : Int} : rightM ⟨1, s, d, [], []⟩ = true := rfl
theorem rightM_t2 {s d : Int} {ak : List (Int × Int)} {ls : List Int} (h : d = 0 ∧ 1 ≤ ak.length ∧ ak.length ≤ 23 ∧ ls = []) : rightM ⟨2, s, d, ak, ls⟩ = true := by
  unfold rightM; rw [if_neg (show ¬ (2 : Int) = 1 by decide), if_pos rfl]; exact decide_eq_true h
theorem rightM_t3 {s d : Int} {ak : List (Int × Int)} {ls : List Int} (h : ak = [] ∧ 1 ≤ ls.length ∧ riseB ls = true ∧ (pairsF ls).length ≤ 47) : rightM ⟨3, s, d, ak, ls⟩ = true := by
  unfold rightM; rw [if_neg (show ¬ (3 : Int) = 1 by decide), if_neg (show ¬ (3 : Int) = 2 by decide), if_pos rfl]; exact decide_eq_true h
theorem rightM_fk {k s d : Int} {ak : List (Int × Int)} {ls : List Int} (h1 : ¬ k = 1) (h2 : ¬ k = 2) (h3 : ¬ k = 3) : rightM ⟨k, s, d, ak, ls⟩ = false := by
  unfold rightM; rw [if_neg h1, if_neg h2, if_neg h3]
theorem len0 {α : Type} {l : List α} : l.length = 0 ↔ l = [] := List.length_eq_zero_iff
set_option maxHeartbeats 2000000 in
theorem Right09_1 (s d : Int) (ak : List (Int × Int)) (ls : List Int) (oa ol : Option Addr) (ka kl A L : Nat) (w : World) (HA : Hid (ak.length = A)) (HL : Hid (ls.length = L)) (SL : Hid (SlI .u16 w (.slice ol L kl) ls)) (UL : Hid (∀ x ∈ ls, U16 x)) (hl : L ≤ 100000) :
    Calls Try.prog 45 #[.agg #[.int .i64 1, .int .u32 s, .int .u32 d, .slice oa A ka, .slice ol L kl]] w fun e w' => e = .returned (.bool (rightM ⟨1, s, d, ak, ls⟩)) ∧ More w w' := by
  by_cases hA : A = 0
  · subst hA
    by_cases hL : L = 0
    · subst hL
      obtain rfl := len0.1 HA.out
      obtain rfl := len0.1 HL.out
      have HR := Lib.hid (rightM_t1 (s := s) (d := d))
      go_enter Try.func45, Try.ntmps45
      go_wp2
      go_ret
      exact ⟨by rw [HR.out]; try rfl, More.alloc _ _⟩
    · have bL : ((L : Int) == 0) = false := neB (by omega)
      have HR := Lib.hid (rightM_f1 (s := s) (d := d) (ak := ak) (ls := ls) (fun h => hL (by rw [← HL.out, h.2]; rfl)))
      clear hL
      go_enter Try.func45, Try.ntmps45
      go_wp2
      go_ret
      exact ⟨by rw [HR.out]; try rfl, More.alloc _ _⟩
  · have bA : ((A : Int) == 0) = false := neB (by omega)
    have HR := Lib.hid (rightM_f1 (s := s) (d := d) (ak := ak) (ls := ls) (fun h => hA (by rw [← HA.out, h.1]; rfl)))
    clear hA
    go_enter Try.func45, Try.ntmps45
    go_wp2
    go_ret
    exact ⟨by rw [HR.out]; try rfl, More.alloc _ _⟩
set_option maxHeartbeats 2000000 in
theorem Right09_2 (s d : Int) (ak : List (Int × Int)) (ls : List Int) (oa ol : Option Addr) (ka kl A L : Nat) (w : World) (hd : 0 ≤ d) (HA : Hid (ak.length = A)) (HL : Hid (ls.length = L)) (SL : Hid (SlI .u16 w (.slice ol L kl) ls)) (UL : Hid (∀ x ∈ ls, U16 x)) (hl : L ≤ 100000) :
    Calls Try.prog 45 #[.agg #[.int .i64 2, .int .u32 s, .int .u32 d, .slice oa A ka, .slice ol L kl]] w fun e w' => e = .returned (.bool (rightM ⟨2, s, d, ak, ls⟩)) ∧ More w w' := by
  by_cases hd0 : d = 0
  · subst hd0
    by_cases h1 : (1 : Int) ≤ (A : Int)
    · by_cases h23 : (A : Int) ≤ 23
      · by_cases hL : L = 0
        · subst hL
          have HR := Lib.hid (rightM_t2 (s := s) (d := 0) (ak := ak) (ls := ls) ⟨rfl, by rw [HA.out]; omega, by rw [HA.out]; omega, len0.1 HL.out⟩)
          go_enter Try.func45, Try.ntmps45
          go_wp2
          go_ret
          exact ⟨by rw [HR.out]; try rfl, More.alloc _ _⟩
        · have bL : ((L : Int) == 0) = false := neB (by omega)
          have HR := Lib.hid (rightM_f2 (s := s) (d := 0) (ak := ak) (ls := ls) (fun h => hL (by rw [← HL.out, h.2.2.2]; rfl)))
          clear hL
          go_enter Try.func45, Try.ntmps45
          go_wp2
          go_ret
          exact ⟨by rw [HR.out]; try rfl, More.alloc _ _⟩
      · skip
        have HR := Lib.hid (rightM_f2 (s := s) (d := 0) (ak := ak) (ls := ls) (fun h => h23 (by have := h.2.2.1; rw [HA.out] at this; omega)))
        go_enter Try.func45, Try.ntmps45
        go_wp2
        go_ret
        exact ⟨by rw [HR.out]; try rfl, More.alloc _ _⟩
    · skip
      have HR := Lib.hid (rightM_f2 (s := s) (d := 0) (ak := ak) (ls := ls) (fun h => h1 (by have := h.2.1; rw [HA.out] at this; omega)))
      go_enter Try.func45, Try.ntmps45
      go_wp2
      go_ret
      exact ⟨by rw [HR.out]; try rfl, More.alloc _ _⟩
  · have bd : (d == 0) = false := neB hd0
    have HR := Lib.hid (rightM_f2 (s := s) (d := d) (ak := ak) (ls := ls) (fun h => hd0 h.1))
    clear hd0
    go_enter Try.func45, Try.ntmps45
    go_wp2
    go_ret
    exact ⟨by rw [HR.out]; try rfl, More.alloc _ _⟩
set_option maxHeartbeats 2000000 in
theorem Right09_3 (s d : Int) (ak : List (Int × Int)) (ls : List Int) (oa ol : Option Addr) (ka kl A L : Nat) (w : World) (HA : Hid (ak.length = A)) (HL : Hid (ls.length = L)) (SL : Hid (SlI .u16 w (.slice ol L kl) ls)) (UL : Hid (∀ x ∈ ls, U16 x)) (hl : L ≤ 100000) :
    Calls Try.prog 45 #[.agg #[.int .i64 3, .int .u32 s, .int .u32 d, .slice oa A ka, .slice ol L kl]] w fun e w' => e = .returned (.bool (rightM ⟨3, s, d, ak, ls⟩)) ∧ More w w' := by
  have M0 := Lib.hid (More.alloc w (.cells #[.int .i64 3, .int .u32 s, .int .u32 d, .slice oa A ka, .slice ol L kl] 85))
  by_cases hA : A = 0
  · subst hA
    by_cases h1 : (1 : Int) ≤ (L : Int)
    · cases hri : riseB ls with
      | true =>
        have HRI := Lib.hid hri
        by_cases h47 : ((pairsF ls).length : Int) ≤ 47
        · have hb := decide_eq_true h47
          have HR := Lib.hid (rightM_t3 (s := s) (d := d) (ak := ak) (ls := ls) ⟨len0.1 HA.out, by rw [HL.out]; omega, hri, by omega⟩)
          clear hri
          go_enter Try.func45, Try.ntmps45
          go_wp2_with (first | (go_at_call 109; ((with_reducible refine (Rising_any ls _ _ (SL.out.keep M0.out) UL.out).mono ?_); rintro e w3 ⟨rfl, m3⟩; rw [HRI.out]; have M3 := Lib.hid (M0.out.trans m3); have B3 := Lib.hid (blk_more m3 (blk_new w (.cells #[.int .i64 3, .int .u32 s, .int .u32 d, .slice oa 0 ka, .slice ol L kl] 85))); clear m3; have x4 := blk_cell B3.out 4 (v := .slice ol L kl) rfl)) | (go_at_call 110; ((with_reducible refine (Pairs_any ls _ _ (SL.out.keep M3.out) UL.out HRI.out (by rw [HL.out]; exact hl)).mono ?_); rintro e w4 ⟨v4, rfl, o4, m4⟩; have M4 := Lib.hid (M3.out.trans m4); obtain ⟨o5, c5, rfl, -⟩ := row_shape o4; clear m4 o4)))
          go_ret
          exact ⟨by rw [HR.out]; try rfl, M4.out⟩
        · have hb := decide_eq_false h47
          have HR := Lib.hid (rightM_f3 (s := s) (d := d) (ak := ak) (ls := ls) (fun h => h47 (by have := h.2.2.2; omega)))
          clear hri
          go_enter Try.func45, Try.ntmps45
          go_wp2_with (first | (go_at_call 109; ((with_reducible refine (Rising_any ls _ _ (SL.out.keep M0.out) UL.out).mono ?_); rintro e w3 ⟨rfl, m3⟩; rw [HRI.out]; have M3 := Lib.hid (M0.out.trans m3); have B3 := Lib.hid (blk_more m3 (blk_new w (.cells #[.int .i64 3, .int .u32 s, .int .u32 d, .slice oa 0 ka, .slice ol L kl] 85))); clear m3; have x4 := blk_cell B3.out 4 (v := .slice ol L kl) rfl)) | (go_at_call 110; ((with_reducible refine (Pairs_any ls _ _ (SL.out.keep M3.out) UL.out HRI.out (by rw [HL.out]; exact hl)).mono ?_); rintro e w4 ⟨v4, rfl, o4, m4⟩; have M4 := Lib.hid (M3.out.trans m4); obtain ⟨o5, c5, rfl, -⟩ := row_shape o4; clear m4 o4)))
          go_ret
          exact ⟨by rw [HR.out]; try rfl, M4.out⟩
      | false =>
        have HRI := Lib.hid hri
        have HR := Lib.hid (rightM_f3 (s := s) (d := d) (ak := ak) (ls := ls) (fun h => by rw [hri] at h; exact absurd h.2.2.1 (by decide)))
        clear hri
        go_enter Try.func45, Try.ntmps45
        go_wp2_with (first | (go_at_call 109; ((with_reducible refine (Rising_any ls _ _ (SL.out.keep M0.out) UL.out).mono ?_); rintro e w3 ⟨rfl, m3⟩; rw [HRI.out]; have M3 := Lib.hid (M0.out.trans m3); have B3 := Lib.hid (blk_more m3 (blk_new w (.cells #[.int .i64 3, .int .u32 s, .int .u32 d, .slice oa 0 ka, .slice ol L kl] 85))); clear m3; have x4 := blk_cell B3.out 4 (v := .slice ol L kl) rfl)))
        go_ret
        exact ⟨by rw [HR.out]; try rfl, M3.out⟩
    · skip
      have HR := Lib.hid (rightM_f3 (s := s) (d := d) (ak := ak) (ls := ls) (fun h => h1 (by have := h.2.1; rw [HL.out] at this; omega)))
      go_enter Try.func45, Try.ntmps45
      go_wp2
      go_ret
      exact ⟨by rw [HR.out]; try rfl, More.alloc _ _⟩
  · have bA : ((A : Int) == 0) = false := neB (by omega)
    have HR := Lib.hid (rightM_f3 (s := s) (d := d) (ak := ak) (ls := ls) (fun h => hA (by rw [← HA.out, h.1]; rfl)))
    clear hA
    go_enter Try.func45, Try.ntmps45
    go_wp2
    go_ret
    exact ⟨by rw [HR.out]; try rfl, More.alloc _ _⟩
set_option maxHeartbeats 2000000 in
theorem Right09_k (k s d : Int) (ak : List (Int × Int)) (ls : List Int) (oa ol : Option Addr) (ka kl A L : Nat) (w : World) (h1 : ¬ k = 1) (h2 : ¬ k = 2) (h3 : ¬ k = 3) (HA : Hid (ak.length = A)) (HL : Hid (ls.length = L)) (SL : Hid (SlI .u16 w (.slice ol L kl) ls)) (UL : Hid (∀ x ∈ ls, U16 x)) (hl : L ≤ 100000) :
    Calls Try.prog 45 #[.agg #[.int .i64 k, .int .u32 s, .int .u32 d, .slice oa A ka, .slice ol L kl]] w fun e w' => e = .returned (.bool (rightM ⟨k, s, d, ak, ls⟩)) ∧ More w w' := by
  have b1 := neB h1
  have b2 := neB h2
  have b3 := neB h3
  have HR := Lib.hid (rightM_fk (s := s) (d := d) (ak := ak) (ls := ls) h1 h2 h3)
  clear h1 h2 h3
  go_enter Try.func45, Try.ntmps45
  go_wp2
  go_ret
  exact ⟨by rw [HR.out]; try rfl, More.alloc _ _⟩
theorem Right09_any (m : Msg) (va vl : Value) (w : World) (h : MsgS w va vl m) (ok : MsgOK m) (hl : m.lost.length ≤ 100000) :
    Calls Try.prog 45 #[.agg #[.int .i64 m.kind, .int .u32 m.snd, .int .u32 m.med, va, vl]] w fun e w' => e = .returned (.bool (rightM m)) ∧ More w w' := by
  obtain ⟨k, s, d, ak, ls⟩ := m
  obtain ⟨ha, hlo⟩ := h
  simp only at *
  have SL := Lib.hid hlo
  obtain ⟨oa, ka, rfl, -⟩ := ha
  obtain ⟨ol, kl, rfl, -⟩ := hlo
  by_cases h1 : k = 1
  · subst h1; exact Right09_1 s d ak ls oa ol ka kl _ _ w (Lib.hid rfl) (Lib.hid rfl) SL (Lib.hid ok.lost) hl
  by_cases h2 : k = 2
  · subst h2; exact Right09_2 s d ak ls oa ol ka kl _ _ w ok.med.1 (Lib.hid rfl) (Lib.hid rfl) SL (Lib.hid ok.lost) hl
  by_cases h3 : k = 3
  · subst h3; exact Right09_3 s d ak ls oa ol ka kl _ _ w (Lib.hid rfl) (Lib.hid rfl) SL (Lib.hid ok.lost) hl
  exact Right09_k k s d ak ls oa ol ka kl _ _ w h1 h2 h3 (Lib.hid rfl) (Lib.hid rfl) SL (Lib.hid ok.lost) hl
end Go.Proofs.Ytlnikmcimmnbmaa
