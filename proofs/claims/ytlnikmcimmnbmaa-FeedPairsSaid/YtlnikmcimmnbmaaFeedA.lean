/- Feedback messages: how they read; numbers ahead of one another; pairs. -/
import Derived.Test.YtlnikmcimmnbmaaFeedQ
import Derived.Test.YtlnikmcimmnbmaaRowS
import Derived.IntWalk
namespace Go.Proofs.Ytlnikmcimmnbmaa
set_option linter.unusedSimpArgs false
set_option linter.unusedVariables false
open Go.RowKit
set_option maxRecDepth 100000

def RAsk : Reader (Int × Int) := fun _ cs a => cs = [.int .u32 a.1, .int .u8 a.2] ∧ U32 a.1 ∧ U8 a.2
def RPr : Reader (Int × Int) := fun _ cs a => cs = [.int .u16 a.1, .int .u16 a.2] ∧ U16 a.1 ∧ U16 a.2
theorem keepsAsk : Keeps RAsk := fun _ _ _ _ _ h => h
theorem keepsPr : Keeps RPr := fun _ _ _ _ _ h => h
theorem wrap_i16 (q : Int) : IntKind.i16.wrap q = (q + 32768) % 65536 - 32768 := by
  simp only [IntKind.wrap, IntKind.bits, IntKind.signed]
  simp
  split <;> omega
theorem ahd_wrap (a b : Int) : wrap64 (IntKind.i16.wrap (IntKind.u16.wrap (b - a))) = ahd a b := by
  rw [wrap_i16, IntKind.wrap_u16]
  unfold ahd wrap64
  omega
theorem ahead_any (a b : Int) (w : World) (ha : U16 a) (hb : U16 b) :
    Calls Try.prog 156 #[.int .u16 a, .int .u16 b] w fun e w' => e = .returned (.int .i64 (ahd a b)) ∧ w = w' := by
  obtain ⟨a0, a1⟩ := ha
  obtain ⟨b0, b1⟩ := hb
  go_enter Try.func156, Try.ntmps156
  go_wp2
  go_ret
  refine ⟨ret_int ?_, rfl⟩
  exact ahd_wrap a b
theorem Ahead_any (a b : Int) (w : World) (ha : U16 a) (hb : U16 b) :
    Calls Try.prog 146 #[.int .u16 a, .int .u16 b] w fun e w' => e = .returned (.int .i64 (ahd a b)) ∧ w = w' := by
  go_enter Try.func146, Try.ntmps146
  go_wp2_with (go_at_call 156; ((with_reducible refine (ahead_any a b _ ha hb).mono ?_); rintro e w1 ⟨rfl, rfl⟩))
  go_ret
  exact ⟨rfl, rfl⟩
theorem Newer_any (a b : Int) (w : World) (ha : U16 a) (hb : U16 b) :
    Calls Try.prog 144 #[.int .u16 a, .int .u16 b] w fun e w' => e = .returned (.bool (decide (0 < ahd a b))) ∧ w = w' := by
  go_enter Try.func144, Try.ntmps144
  go_wp2_with (go_at_call 146; ((with_reducible refine (Ahead_any a b _ ha hb).mono ?_); rintro e w1 ⟨rfl, rfl⟩))
  go_ret
  exact ⟨rfl, rfl⟩
theorem Form_any (k : Int) (w : World) :
    Calls Try.prog 111 #[.int .i64 k] w fun e w' => e = .returned (.tuple #[.int .u8 (formM k).1, .int .u8 (formM k).2]) ∧ w = w' := by
  by_cases h1 : k = 1
  · subst h1
    go_enter Try.func111, Try.ntmps111
    go_wp2
    go_ret2
    exact ⟨rfl, rfl⟩
  by_cases h2 : k = 2
  · subst h2
    go_enter Try.func111, Try.ntmps111
    go_wp2
    go_ret2
    exact ⟨rfl, rfl⟩
  have hf : formM k = (205, 1) := by unfold formM; rw [if_neg h1, if_neg h2]
  have HF := Lib.hid hf
  have b1 : (k == 1) = false := by simpa using h1
  have b2 : (k == 2) = false := by simpa using h2
  clear hf h1 h2
  go_enter Try.func111, Try.ntmps111
  go_wp2
  go_ret2
  exact ⟨by rw [HF.out]; rfl, rfl⟩
end Go.Proofs.Ytlnikmcimmnbmaa
