/- Feedback messages: the kind of a chunk; Right. -/
import Derived.Test.YtlnikmcimmnbmaaFeedC
namespace Go.Proofs.Ytlnikmcimmnbmaa
set_option linter.unusedSimpArgs false
set_option linter.unusedVariables false
open Go.RowKit
set_option maxRecDepth 100000

theorem kindC_1 {n t : Int} {b : List Int} (h : t = 206 ∧ n = 1) : kindC (n, t, b, ()) = 1 := by unfold kindC; rw [if_pos h]
theorem kindC_2 {n t : Int} {b : List Int} (h : t = 206 ∧ n = 4) : kindC (n, t, b, ()) = 2 := by unfold kindC; rw [if_neg (by simp only; omega), if_pos h]
theorem kindC_3 {n t : Int} {b : List Int} (h : t = 205 ∧ n = 1) : kindC (n, t, b, ()) = 3 := by unfold kindC; rw [if_neg (by simp only; omega), if_neg (by simp only; omega), if_pos h]
theorem kindC_0 {n t : Int} {b : List Int} (h1 : ¬ (t = 206 ∧ n = 1)) (h2 : ¬ (t = 206 ∧ n = 4)) (h3 : ¬ (t = 205 ∧ n = 1)) : kindC (n, t, b, ()) = 0 := by unfold kindC; rw [if_neg h1, if_neg h2, if_neg h3]
theorem Form_1 (w : World) : Calls Try.prog 111 #[.int .i64 1] w fun e w' => e = .returned (.tuple #[.int .u8 206, .int .u8 1]) ∧ w = w' := Form_any 1 w
theorem Form_2 (w : World) : Calls Try.prog 111 #[.int .i64 2] w fun e w' => e = .returned (.tuple #[.int .u8 206, .int .u8 4]) ∧ w = w' := Form_any 2 w
theorem Form_3 (w : World) : Calls Try.prog 111 #[.int .i64 3] w fun e w' => e = .returned (.tuple #[.int .u8 205, .int .u8 1]) ∧ w = w' := Form_any 3 w
theorem eqB {a b : Int} (h : a = b) : (a == b) = true := by simpa using h
theorem neB {a b : Int} (h : ¬ a = b) : (a == b) = false := by simpa using h
set_option maxHeartbeats 2000000 in
theorem KindOf_any (n t : Int) (B : List Int) (ob : Option Addr) (cb : Nat) (w : World) :
    Calls Try.prog 106 #[.agg #[.int .u8 n, .int .u8 t, .slice ob B.length cb]] w fun e w' => e = .returned (.int .i64 (kindC (n, t, B, ()))) ∧ More w w' := by
  go_enter Try.func106, Try.ntmps106
  go_wp2
  go_loopw [9] (fun ix wr => ∃ j : Nat, j ≤ 3 ∧ ix = .int .i64 j ∧ (1 ≤ j → ¬ (t = 206 ∧ n = 1)) ∧ (2 ≤ j → ¬ (t = 206 ∧ n = 4)) ∧ (3 ≤ j → ¬ (t = 205 ∧ n = 1)) ∧ More ((w.alloc (.cells #[.int .u8 n, .int .u8 t, .slice ob B.length cb] 30)).alloc (.cells #[.int .i64 1, .int .i64 2, .int .i64 3] 3)) wr) (fun ix _ => 3 - (intOf ix).toNat)
  case atStart => exact ⟨0, by omega, rfl, (fun h => by omega), (fun h => by omega), (fun h => by omega), More.refl _⟩
  case round =>
    obtain ⟨j, hj, rfl, k1, k2, k3, hm⟩ := hrel
    have K1 := Lib.hid k1
    have K2 := Lib.hid k2
    have K3 := Lib.hid k3
    clear k1 k2 k3
    have M0 := Lib.hid (((More.alloc w (.cells #[.int .u8 n, .int .u8 t, .slice ob B.length cb] 30)).al (.cells #[.int .i64 1, .int .i64 2, .int .i64 3] 3)).trans hm)
    have f0 := blk_cell (blk_more hm (blk_alloc (blk_new w (.cells #[.int .u8 n, .int .u8 t, .slice ob B.length cb] 30)) (.cells #[.int .i64 1, .int .i64 2, .int .i64 3] 3))) 0 (v := .int .u8 n) rfl
    have f1 := blk_cell (blk_more hm (blk_alloc (blk_new w (.cells #[.int .u8 n, .int .u8 t, .slice ob B.length cb] 30)) (.cells #[.int .i64 1, .int .i64 2, .int .i64 3] 3))) 1 (v := .int .u8 t) rfl
    have l0 := blk_cell (blk_more hm (blk_new2 (w := w.alloc (.cells #[.int .u8 n, .int .u8 t, .slice ob B.length cb] 30)) (o := (.cells #[.int .i64 1, .int .i64 2, .int .i64 3] 3)) (n := w.heap.size + 1) (by simp))) 0 (v := .int .i64 1) rfl
    have l1 := blk_cell (blk_more hm (blk_new2 (w := w.alloc (.cells #[.int .u8 n, .int .u8 t, .slice ob B.length cb] 30)) (o := (.cells #[.int .i64 1, .int .i64 2, .int .i64 3] 3)) (n := w.heap.size + 1) (by simp))) 1 (v := .int .i64 2) rfl
    have l2 := blk_cell (blk_more hm (blk_new2 (w := w.alloc (.cells #[.int .u8 n, .int .u8 t, .slice ob B.length cb] 30)) (o := (.cells #[.int .i64 1, .int .i64 2, .int .i64 3] 3)) (n := w.heap.size + 1) (by simp))) 2 (v := .int .i64 3) rfl
    have HM := Lib.hid hm
    clear hm
    by_cases e0 : j = 0
    · subst e0
      by_cases ht : t = 206
      · have bt := eqB ht
        by_cases hn : n = 1
        · have bn := eqB hn
          have HX := Lib.hid (kindC_1 (b := B) ⟨ht, hn⟩)
          clear ht hn
          go_wp2_with (go_at_call 111; ((with_reducible refine (Form_1 _).mono ?_); rintro e w3 ⟨rfl, rfl⟩))
          go_ret
          exact ⟨by rw [HX.out]; rfl, M0.out⟩
        · have bn := neB hn
          have HN := Lib.hid hn
          clear ht hn
          go_wp2_with (go_at_call 111; ((with_reducible refine (Form_1 _).mono ?_); rintro e w3 ⟨rfl, rfl⟩))
          go_roundw
          case rel => exact ⟨1, by omega, by first | rfl | go_num, (fun _ => (fun h => HN.out h.2)), (fun h => by omega), (fun h => by omega), HM.out⟩
          case measure => simp [intOf]
      · have bt := neB ht
        have HN := Lib.hid ht
        clear ht
        go_wp2_with (go_at_call 111; ((with_reducible refine (Form_1 _).mono ?_); rintro e w3 ⟨rfl, rfl⟩))
        go_roundw
        case rel => exact ⟨1, by omega, by first | rfl | go_num, (fun _ => (fun h => HN.out h.1)), (fun h => by omega), (fun h => by omega), HM.out⟩
        case measure => simp [intOf]
    by_cases e1 : j = 1
    · subst e1
      clear e0
      by_cases ht : t = 206
      · have bt := eqB ht
        by_cases hn : n = 4
        · have bn := eqB hn
          have HX := Lib.hid (kindC_2 (b := B) ⟨ht, hn⟩)
          clear ht hn
          go_wp2_with (go_at_call 111; ((with_reducible refine (Form_2 _).mono ?_); rintro e w3 ⟨rfl, rfl⟩))
          go_ret
          exact ⟨by rw [HX.out]; rfl, M0.out⟩
        · have bn := neB hn
          have HN := Lib.hid hn
          clear ht hn
          go_wp2_with (go_at_call 111; ((with_reducible refine (Form_2 _).mono ?_); rintro e w3 ⟨rfl, rfl⟩))
          go_roundw
          case rel => exact ⟨2, by omega, by first | rfl | go_num, (fun _ => K1.out (by omega)), (fun _ => (fun h => HN.out h.2)), (fun h => by omega), HM.out⟩
          case measure => simp [intOf]
      · have bt := neB ht
        have HN := Lib.hid ht
        clear ht
        go_wp2_with (go_at_call 111; ((with_reducible refine (Form_2 _).mono ?_); rintro e w3 ⟨rfl, rfl⟩))
        go_roundw
        case rel => exact ⟨2, by omega, by first | rfl | go_num, (fun _ => K1.out (by omega)), (fun _ => (fun h => HN.out h.1)), (fun h => by omega), HM.out⟩
        case measure => simp [intOf]
    by_cases e2 : j = 2
    · subst e2
      clear e0 e1
      by_cases ht : t = 205
      · have bt := eqB ht
        by_cases hn : n = 1
        · have bn := eqB hn
          have HX := Lib.hid (kindC_3 (b := B) ⟨ht, hn⟩)
          clear ht hn
          go_wp2_with (go_at_call 111; ((with_reducible refine (Form_3 _).mono ?_); rintro e w3 ⟨rfl, rfl⟩))
          go_ret
          exact ⟨by rw [HX.out]; rfl, M0.out⟩
        · have bn := neB hn
          have HN := Lib.hid hn
          clear ht hn
          go_wp2_with (go_at_call 111; ((with_reducible refine (Form_3 _).mono ?_); rintro e w3 ⟨rfl, rfl⟩))
          go_roundw
          case rel => exact ⟨3, by omega, by first | rfl | go_num, (fun _ => K1.out (by omega)), (fun _ => K2.out (by omega)), (fun _ => (fun h => HN.out h.2)), HM.out⟩
          case measure => simp [intOf]
      · have bt := neB ht
        have HN := Lib.hid ht
        clear ht
        go_wp2_with (go_at_call 111; ((with_reducible refine (Form_3 _).mono ?_); rintro e w3 ⟨rfl, rfl⟩))
        go_roundw
        case rel => exact ⟨3, by omega, by first | rfl | go_num, (fun _ => K1.out (by omega)), (fun _ => K2.out (by omega)), (fun _ => (fun h => HN.out h.1)), HM.out⟩
        case measure => simp [intOf]
    · obtain rfl : j = 3 := by omega
      have HX := Lib.hid (kindC_0 (b := B) (K1.out (by omega)) (K2.out (by omega)) (K3.out (by omega)))
      clear e0 e1 e2
      go_wp2
      go_ret
      exact ⟨by rw [HX.out]; rfl, M0.out⟩
end Go.Proofs.Ytlnikmcimmnbmaa
