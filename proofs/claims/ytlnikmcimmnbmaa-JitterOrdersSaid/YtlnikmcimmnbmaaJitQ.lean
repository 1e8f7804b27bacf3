/- The law JitterWaits, walked. -/
import Derived.Test.YtlnikmcimmnbmaaJitP
namespace Go.Proofs.Ytlnikmcimmnbmaa
set_option linter.unusedSimpArgs false
set_option linter.unusedVariables false
open Go.RowKit Go.Lib
set_option maxRecDepth 100000

theorem JW_no (room wait till : Int) (v : Value) (w : World) (h : ¬ newOK room wait) :
    Calls Try.prog 11 #[.int .i64 room, .int .i64 wait, v, .int .i64 till] w fun e w' => e = .returned (.bool true) ∧ More w w' := by
  have HN := Lib.hid (fun w => New_no room wait w h)
  clear h
  go_enter Try.func11, Try.ntmps11
  go_wp2_with (first | (go_at_call 52; ((with_reducible refine (awake12 _).mono ?_); rintro e w1 ⟨rfl, m1⟩; have M1 := Lib.hid m1; clear m1)) | (go_at_call 53; ((with_reducible refine (HN.out w1).mono ?_); rintro e w2 ⟨rfl, rfl⟩)))
  go_ret
  exact ⟨rfl, M1.out⟩
theorem JW_guard (room wait till : Int) (oa : Option Addr) (N cap : Nat) (w : World) (h : newOK room wait) (hx : 200 < N ∨ (N ≤ 200 ∧ may60 till = false) ∨ (N ≤ 200 ∧ may60 till = true ∧ 1152921504606845976 < till)) :
    Calls Try.prog 11 #[.int .i64 room, .int .i64 wait, .slice oa N cap, .int .i64 till] w fun e w' => e = .returned (.bool true) ∧ More w w' := by
  have HN := Lib.hid (fun w => New_yes room wait w h)
  clear h
  rcases hx with h1 | ⟨h1, h2⟩ | ⟨h1, h2, h3⟩
  · have h1' : (200 : Int) < (N : Int) := by omega
    clear h1
    go_enter Try.func11, Try.ntmps11
    go_wp2_with (first | (go_at_call 52; ((with_reducible refine (awake12 _).mono ?_); rintro e w1 ⟨rfl, m1⟩; have M1 := Lib.hid m1; clear m1)) | (go_at_call 53; ((with_reducible refine (HN.out w1).mono ?_); rintro e w2 ⟨rfl, _, m2, _⟩; have M2 := Lib.hid (M1.out.trans m2); clear m2)))
    go_ret
    exact ⟨rfl, M2.out⟩
  · have h1' : decide ((200 : Int) < (N : Int)) = false := decide_eq_false (by omega)
    have H2 := Lib.hid h2
    clear h1 h2
    go_enter Try.func11, Try.ntmps11
    go_wp2_with (first | (go_at_call 52; ((with_reducible refine (awake12 _).mono ?_); rintro e w1 ⟨rfl, m1⟩; have M1 := Lib.hid m1; clear m1)) | (go_at_call 53; ((with_reducible refine (HN.out w1).mono ?_); rintro e w2 ⟨rfl, _, m2, _⟩; have M2 := Lib.hid (M1.out.trans m2); clear m2)) | (go_at_call 54; ((with_reducible refine (may12_any till _).mono ?_); rintro e w3 ⟨rfl, rfl⟩; rw [H2.out])))
    go_ret
    exact ⟨rfl, M2.out⟩
  · have h1' : decide ((200 : Int) < (N : Int)) = false := decide_eq_false (by omega)
    have H2 := Lib.hid h2
    clear h1 h2
    go_enter Try.func11, Try.ntmps11
    go_wp2_with (first | (go_at_call 52; ((with_reducible refine (awake12 _).mono ?_); rintro e w1 ⟨rfl, m1⟩; have M1 := Lib.hid m1; clear m1)) | (go_at_call 53; ((with_reducible refine (HN.out w1).mono ?_); rintro e w2 ⟨rfl, _, m2, _⟩; have M2 := Lib.hid (M1.out.trans m2); clear m2)) | (go_at_call 54; ((with_reducible refine (may12_any till _).mono ?_); rintro e w3 ⟨rfl, rfl⟩; rw [H2.out])))
    go_ret
    exact ⟨rfl, M2.out⟩
end Go.Proofs.Ytlnikmcimmnbmaa
