/- The law FeedPairs, walked. -/
import Derived.Test.YtlnikmcimmnbmaaFeedN
namespace Go.Proofs.Ytlnikmcimmnbmaa
set_option linter.unusedSimpArgs false
set_option linter.unusedVariables false
open Go.RowKit
set_option maxRecDepth 100000

theorem onP_cond (p : Int × Int) (h2 : U16 p.2) (i : Nat) : (bits .and .u16 (p.2 / 2 ^ i) 1 == 0) = !onP p (i + 1) := by
  rw [bit_and h2 i]
  show _ = !tb p.2 i
  cases tb p.2 i <;> rfl
theorem FeedPairs_short (l : List Int) (ol : Option Addr) (kl : Nat) (w : World) (sl : SlI .u16 w (.slice ol l.length kl) l) (hu : ∀ x ∈ l, U16 x) (hx : 300 < l.length ∨ (l.length ≤ 300 ∧ riseB l = false) ∨ (l.length ≤ 300 ∧ riseB l = true ∧ l = [])) :
    Calls Try.prog 9 #[.slice ol l.length kl] w fun e w' => e = .returned (.bool true) ∧ More w w' := by
  have SL := Lib.hid sl
  have HU := Lib.hid hu
  clear sl hu
  rcases hx with h1 | ⟨h1, h2⟩ | ⟨h1, h2, h3⟩
  · have h1' : (300 : Int) < (l.length : Int) := by omega
    go_enter Try.func9, Try.ntmps9
    go_wp2_with (go_at_call 42; ((with_reducible refine (awake09 _).mono ?_); rintro e w1 ⟨rfl, m1⟩))
    go_ret
    exact ⟨rfl, m1⟩
  · have h1' : ¬ (300 : Int) < (l.length : Int) := by omega
    have H2 := Lib.hid h2
    clear h2
    go_enter Try.func9, Try.ntmps9
    go_wp2_with (first | (go_at_call 42; ((with_reducible refine (awake09 _).mono ?_); rintro e w1 ⟨rfl, m1⟩; have S1 := Lib.hid (SL.out.keep m1); have M1 := Lib.hid m1; clear m1)) | (go_at_call 51; ((with_reducible refine (RefRise_any l _ _ S1.out HU.out).mono ?_); rintro e w2 ⟨rfl, m2⟩; rw [H2.out]; have M2 := Lib.hid (M1.out.trans m2); clear m2)))
    go_ret
    exact ⟨rfl, M2.out⟩
  · have H2 := Lib.hid h2
    have h1' : ¬ (300 : Int) < (l.length : Int) := by omega
    have h0 : ((l.length : Int) == 0) = true := by rw [h3]; rfl
    clear h2 h3
    go_enter Try.func9, Try.ntmps9
    go_wp2_with (first | (go_at_call 42; ((with_reducible refine (awake09 _).mono ?_); rintro e w1 ⟨rfl, m1⟩; have S1 := Lib.hid (SL.out.keep m1); have M1 := Lib.hid m1; clear m1)) | (go_at_call 51; ((with_reducible refine (RefRise_any l _ _ S1.out HU.out).mono ?_); rintro e w2 ⟨rfl, m2⟩; rw [H2.out]; have M2 := Lib.hid (M1.out.trans m2); clear m2)))
    go_ret
    exact ⟨rfl, M2.out⟩
end Go.Proofs.Ytlnikmcimmnbmaa
