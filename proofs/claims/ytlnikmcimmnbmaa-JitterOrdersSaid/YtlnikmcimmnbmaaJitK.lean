/- Package jitter: Push, joined; Pop; plain laws of a buffer. -/
import Derived.Test.YtlnikmcimmnbmaaJitJ
namespace Go.Proofs.Ytlnikmcimmnbmaa
set_option linter.unusedSimpArgs false
set_option linter.unusedVariables false
open Go.RowKit Go.Lib
set_option maxRecDepth 100000

theorem Push_any (b : Jb) (ok : JOK b) (R : Nat) (v : Value) (n now x : Int) (hn : Num60 n) (w : World) (H : BufAt w R v b) :
    Calls Try.prog 55 #[.pointer (some ⟨R, 0, none⟩), .int .i64 n, .int .i64 now, .int .i64 x] w fun er w' => er = .returned (.int .i64 (pushJ b n now x).2) ∧ ∃ v', BStep w w' R v v' (pushJ b n now x).1 := by
  have no : ∀ e : Int, pushJ b n now x = (b, e) → (Calls Try.prog 55 #[.pointer (some ⟨R, 0, none⟩), .int .i64 n, .int .i64 now, .int .i64 x] w fun er w' => er = .returned (.int .i64 e) ∧ More w w') →
      Calls Try.prog 55 #[.pointer (some ⟨R, 0, none⟩), .int .i64 n, .int .i64 now, .int .i64 x] w fun er w' => er = .returned (.int .i64 (pushJ b n now x).2) ∧ ∃ v', BStep w w' R v v' (pushJ b n now x).1 := by
    intro e he hc
    rw [he]
    exact hc.mono fun er w' ⟨h1, h2⟩ => ⟨h1, v, BStep.keep h2 (H.on h2)⟩
  have yes : pushJ b n now x = ({ b with holds := insJ b.holds (n, now, x) }, 0) → (Calls Try.prog 55 #[.pointer (some ⟨R, 0, none⟩), .int .i64 n, .int .i64 now, .int .i64 x] w fun er w' => er = .returned (.int .i64 0) ∧ ∃ v', BStep w w' R v v' { b with holds := insJ b.holds (n, now, x) }) →
      Calls Try.prog 55 #[.pointer (some ⟨R, 0, none⟩), .int .i64 n, .int .i64 now, .int .i64 x] w fun er w' => er = .returned (.int .i64 (pushJ b n now x).2) ∧ ∃ v', BStep w w' R v v' (pushJ b n now x).1 := by
    intro he hc
    rw [he]
    exact hc
  cases hs : sameJ b n with
  | true =>
    have he : pushJ b n now x = (b, 10) := by unfold pushJ; rw [hs]; rfl
    cases hbg : b.begun with
    | true => exact no 10 he (Push_same_t b ok R v n now x hn w H hbg hs)
    | false => exact no 10 he (Push_same_f b ok R v n now x hn w H hbg hs)
  | false =>
    cases hbg : b.begun with
    | true =>
      cases hkn : know b.hi b.bits n with
      | true => exact no 10 (by unfold pushJ; rw [hs, hbg, hkn]; rfl) (Push_known b ok R v n now x hn w H hbg hs hkn)
      | false =>
        by_cases hlt : n < b.hi + 1
        · exact no 9 (by unfold pushJ; rw [hs, hbg, hkn, decide_eq_true hlt]; rfl) (Push_late b ok R v n now x hn w H hbg hs hkn hlt)
        · by_cases hf : b.room ≤ b.holds.length
          · exact no 8 (by unfold pushJ; rw [hs, hbg, hkn, decide_eq_false hlt, if_neg (by decide), if_neg (by decide), if_pos hf]) (Push_full_t b ok R v n now x hn w H hbg hs hkn hlt hf)
          · have he : pushJ b n now x = ({ b with holds := insJ b.holds (n, now, x) }, 0) := by unfold pushJ; rw [hs, hbg, hkn, decide_eq_false hlt, if_neg (by decide), if_neg (by decide), if_neg hf]
            rcases atJ_idx b.holds n with hx | hx
            · exact yes he (Push_take_ti b ok R v n now x hn w H hbg hs hkn hlt hf hx)
            · exact yes he (Push_take_te b ok R v n now x hn w H hbg hs hkn hlt hf hx)
    | false =>
      by_cases hf : b.room ≤ b.holds.length
      · exact no 8 (by unfold pushJ; rw [hs, hbg, if_neg (by simp), if_neg (by simp), if_pos hf]) (Push_full_f b ok R v n now x hn w H hbg hs hf)
      · have he : pushJ b n now x = ({ b with holds := insJ b.holds (n, now, x) }, 0) := by unfold pushJ; rw [hs, hbg, if_neg (by simp), if_neg (by simp), if_neg hf]
        rcases atJ_idx b.holds n with hx | hx
        · exact yes he (Push_take_fi b ok R v n now x hn w H hbg hs hf hx)
        · exact yes he (Push_take_fe b ok R v n now x hn w H hbg hs hf hx)
end Go.Proofs.Ytlnikmcimmnbmaa
