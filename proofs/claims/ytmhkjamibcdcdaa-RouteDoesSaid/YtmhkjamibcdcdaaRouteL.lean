/- The document's table of package route: Find, Source. -/
import Derived.Test.YtmhkjamibcdcdaaRouteK
namespace Go.Proofs.Ytmhkjamibcdcdaa
open Go.RowKit
set_option maxRecDepth 100000

theorem RC_sr (r : RS) (p l : Nat) (hp : p < 3) (hl : l < 3) : (RC r)[3 + p * 3 + l]? = some (.int .u32 (r.sr p l)) := by
  have h1 : p = 0 ∨ p = 1 ∨ p = 2 := by omega
  have h2 : l = 0 ∨ l = 1 ∨ l = 2 := by omega
  rcases h1 with rfl | rfl | rfl <;> rcases h2 with rfl | rfl | rfl <;> rfl
def RFd (r : RS) (s : Int) (v : Option Og) : Prop := (∀ q, v = some q → ∃ p l : Nat, p < 3 ∧ l < 3 ∧ r.pb p = true ∧ r.sr p l = s ∧ q = ((p : Int), (l : Int))) ∧ (v = none → ∀ p l : Nat, p < 3 → l < 3 → r.pb p = true → ¬ r.sr p l = s)
set_option maxHeartbeats 2000000 in
theorem RFind {w : World} {R : Nat} {r : RS} (h : RefAt w R r) (s : Int) :
    Calls Try.prog 40 #[.pointer (some ⟨R, 0, none⟩), .int .u32 s] w fun e w' => (∃ v : Option Og, e = .returned (.tuple #[.agg #[.int .i64 (v.getD (0, 0)).1, .int .i64 (v.getD (0, 0)).2], .bool v.isSome]) ∧ RFd r s v) ∧ More w w' := by
  have H := Lib.hid h
  clear h
  go_enter Try.func40, Try.ntmps40
  go_wp2_with fail
  go_loopw [6] (fun i wr => ∃ p : Nat, p ≤ 3 ∧ i = .int .i64 p ∧ wr = w.alloc (.cells #[.int .i64 0, .int .i64 0] 94) ∧ ∀ p' l' : Nat, p' < p → l' < 3 → r.pb p' = true → ¬ r.sr p' l' = s) (fun i _ => 3 - (intOf i).toNat)
  case atStart => exact ⟨0, by omega, rfl, rfl, fun p' l' h => by omega⟩
  case round =>
    obtain ⟨p, hp, rfl, rfl, hno⟩ := hrel
    have HNO := Lib.hid hno
    clear hno
    by_cases hp3 : p < 3
    · have hp3i : (p : Int) < 3 := by omega
      go_wp2_with fail
      go_loopw [7] (fun i wr => ∃ l : Nat, l ≤ 3 ∧ i = .int .i64 l ∧ wr = w.alloc (.cells #[.int .i64 0, .int .i64 0] 94) ∧ ∀ l' : Nat, l' < l → r.pb p = true → ¬ r.sr p l' = s) (fun i _ => 3 - (intOf i).toNat)
      case atStart => exact ⟨0, by omega, rfl, rfl, fun l' h => by omega⟩
      case round =>
        obtain ⟨l, hl, rfl, rfl, hn2⟩ := hrel
        have HN2 := Lib.hid hn2
        clear hn2
        by_cases hl3 : l < 3
        · have hl3i : (l : Int) < 3 := by omega
          have h1 := blk_alloc H.out (.cells #[.int .i64 0, .int .i64 0] 94)
          have c0 := blk_cell h1 p (RC_pb r p hp3)
          have c1 := blk_cell h1 (3 + p * 3 + l) (RC_sr r p l hp3 hl3)
          clear h1
          cases hb : r.pb p with
          | false =>
            rw [hb] at c0
            clear hb
            go_wp2
            go_roundw
            case rel => exact ⟨l + 1, by omega, by go_num, trivial, fun l' _ e => by simp at e⟩
            case measure => simp [intOf]; omega
          | true =>
            rw [hb] at c0
            have HB := Lib.hid hb
            clear hb
            by_cases hs : r.sr p l = s
            · have HS := Lib.hid hs
              have hs' : (r.sr p l == s) = true := by simpa using hs
              clear hs
              go_wp2
              (refine bodyPost_ret (v := .tuple #[.agg #[.int .i64 (p : Int), .int .i64 (l : Int)], .bool true]) ?rr1 rfl ?_; (case rr1 => (simp [results, Try.results40, go_sem])))
              exact ⟨⟨some ((p : Int), (l : Int)), rfl, fun q hq => ⟨p, l, hp3, hl3, HB.out, HS.out, by cases hq; rfl⟩, fun h => by cases h⟩, More.alloc _ _⟩
            · have HS := Lib.hid hs
              have hs' : (r.sr p l == s) = false := by simpa using hs
              clear hs
              have HX : Hid (∀ l' : Nat, l' < l + 1 → r.pb p = true → ¬ r.sr p l' = s) := Lib.hid (fun l' h e => by
                by_cases e2 : l' = l
                · subst e2; exact HS.out
                · exact HN2.out l' (by omega) e)
              go_wp2
              go_roundw
              case rel => exact ⟨l + 1, by omega, by go_num, trivial, fun l' h2 _ => HX.out l' h2 HB.out⟩
              case measure => simp [intOf]; omega
        · obtain rfl : l = 3 := by omega
          have HX : Hid (∀ p' l' : Nat, p' < p + 1 → l' < 3 → r.pb p' = true → ¬ r.sr p' l' = s) := Lib.hid (fun p' l' h h2 e => by
            by_cases e2 : p' = p
            · subst e2; exact HN2.out l' h2 e
            · exact HNO.out p' l' (by omega) h2 e)
          go_wp2
          go_roundw
          case rel => exact ⟨p + 1, by omega, by go_num, trivial, HX.out⟩
          case measure => simp [intOf]; omega
    · obtain rfl : p = 3 := by omega
      go_wp2
      (refine bodyPost_ret (v := .tuple #[.agg #[.int .i64 0, .int .i64 0], .bool false]) ?rr2 rfl ?_; (case rr2 => (simp [results, Try.results40, go_sem])))
      have hF : RFd r s none := by
        unfold RFd
        refine ⟨fun q hq => ?_, fun _ p l hp hl => HNO.out p l hp hl⟩
        cases hq
      exact ⟨⟨none, rfl, hF⟩, More.alloc _ _⟩
end Go.Proofs.Ytmhkjamibcdcdaa
