/- The document's table of package route: its cells; Of, Join, Leave, Unsubscribe, Subscribe. -/
import Derived.Test.YtmhkjamibcdcdaaRouteF
namespace Go.Proofs.Ytmhkjamibcdcdaa
open Go.RowKit
set_option maxRecDepth 100000

structure RS where
  pb : Nat → Bool
  sr : Nat → Nat → Int
  he : Nat → Bool
  ow : Nat → Int
  to : Nat → Int
def upd {α : Type} (f : Nat → α) (n : Nat) (v : α) : Nat → α := fun m => if m = n then v else f m
def RC (r : RS) : Array Value := #[.bool (r.pb 0), .bool (r.pb 1), .bool (r.pb 2), .int .u32 (r.sr 0 0), .int .u32 (r.sr 0 1), .int .u32 (r.sr 0 2), .int .u32 (r.sr 1 0), .int .u32 (r.sr 1 1), .int .u32 (r.sr 1 2), .int .u32 (r.sr 2 0), .int .u32 (r.sr 2 1), .int .u32 (r.sr 2 2), .bool (r.he 0), .bool (r.he 1), .bool (r.he 2), .bool (r.he 3), .bool (r.he 4), .bool (r.he 5), .int .u32 (r.ow 0), .int .u32 (r.ow 1), .int .u32 (r.ow 2), .int .u32 (r.ow 3), .int .u32 (r.ow 4), .int .u32 (r.ow 5), .int .i64 (r.to 0), .int .i64 (r.to 1), .int .i64 (r.to 2), .int .i64 (r.to 3), .int .i64 (r.to 4), .int .i64 (r.to 5)]
theorem RC_pb (r : RS) (p : Nat) (h : p < 3) : (RC r)[p]? = some (.bool (r.pb p)) := by
  have : p = 0 ∨ p = 1 ∨ p = 2 := by omega
  rcases this with rfl | rfl | rfl <;> rfl
theorem RC_he (r : RS) (x : Nat) (h : x < 6) : (RC r)[12 + x]? = some (.bool (r.he x)) := by
  have : x = 0 ∨ x = 1 ∨ x = 2 ∨ x = 3 ∨ x = 4 ∨ x = 5 := by omega
  rcases this with rfl | rfl | rfl | rfl | rfl | rfl <;> rfl
theorem RC_ow (r : RS) (x : Nat) (h : x < 6) : (RC r)[18 + x]? = some (.int .u32 (r.ow x)) := by
  have : x = 0 ∨ x = 1 ∨ x = 2 ∨ x = 3 ∨ x = 4 ∨ x = 5 := by omega
  rcases this with rfl | rfl | rfl | rfl | rfl | rfl <;> rfl
theorem RC_to (r : RS) (x : Nat) (h : x < 6) : (RC r)[24 + x]? = some (.int .i64 (r.to x)) := by
  have : x = 0 ∨ x = 1 ∨ x = 2 ∨ x = 3 ∨ x = 4 ∨ x = 5 := by omega
  rcases this with rfl | rfl | rfl | rfl | rfl | rfl <;> rfl
theorem RC_set_he (r : RS) (x : Nat) (h : x < 6) (v : Bool) : (RC r).setIfInBounds (12 + x) (.bool v) = RC { r with he := upd r.he x v } := by
  have : x = 0 ∨ x = 1 ∨ x = 2 ∨ x = 3 ∨ x = 4 ∨ x = 5 := by omega
  rcases this with rfl | rfl | rfl | rfl | rfl | rfl <;> simp [RC, upd]
theorem RC_set_ow (r : RS) (x : Nat) (h : x < 6) (v : Int) : (RC r).setIfInBounds (18 + x) (.int .u32 v) = RC { r with ow := upd r.ow x v } := by
  have : x = 0 ∨ x = 1 ∨ x = 2 ∨ x = 3 ∨ x = 4 ∨ x = 5 := by omega
  rcases this with rfl | rfl | rfl | rfl | rfl | rfl <;> simp [RC, upd]
theorem RC_set_to (r : RS) (x : Nat) (h : x < 6) (v : Int) : (RC r).setIfInBounds (24 + x) (.int .i64 v) = RC { r with to := upd r.to x v } := by
  have : x = 0 ∨ x = 1 ∨ x = 2 ∨ x = 3 ∨ x = 4 ∨ x = 5 := by omega
  rcases this with rfl | rfl | rfl | rfl | rfl | rfl <;> simp [RC, upd]
def RefAt (w : World) (R : Nat) (r : RS) : Prop := w.heap[R]? = some (.cells (RC r) 86 (0, 0))
def rOf (r : RS) (x : Int) : Int × Bool := if 0 ≤ x ∧ x < 6 ∧ r.he x.toNat = true ∧ 0 ≤ r.to x.toNat then (r.to x.toNat, true) else (0, false)
set_option maxHeartbeats 1000000 in
theorem ROf {w : World} {R : Nat} {r : RS} (h : RefAt w R r) (x : Int) :
    Calls Try.prog 44 #[.pointer (some ⟨R, 0, none⟩), .int .i64 x] w fun e w' => e = .returned (.tuple #[.int .i64 (rOf r x).1, .bool (rOf r x).2]) ∧ More w w' := by
  have M0 := Lib.hid (More.refl w)
  by_cases hx : 0 ≤ x ∧ x < 6
  · obtain ⟨n, rfl⟩ : ∃ n : Nat, x = n := ⟨x.toNat, by omega⟩
    have hn : n < 6 := by omega
    have c0 := blk_cell h (12 + n) (RC_he r n hn)
    have c1 := blk_cell h (24 + n) (RC_to r n hn)
    have l1 : ¬ (n : Int) < 0 := by omega
    have l2 : ¬ (5 : Int) < (n : Int) := by omega
    have hN : (n : Int) < 6 := by omega
    have e : rOf r (n : Int) = if r.he n = true ∧ 0 ≤ r.to n then (r.to n, true) else (0, false) := by
      unfold rOf
      simp [hN]
    rw [e]
    clear e h hx
    cases hh : r.he n with
    | false =>
      rw [hh] at c0
      go_enter Try.func44, Try.ntmps44
      go_wp2
      go_ret2
      exact ⟨rfl, M0.out⟩
    | true =>
      rw [hh] at c0
      by_cases ht : r.to n < 0
      · have ht2 : ¬ 0 ≤ r.to n := by omega
        rw [if_neg (by omega)]
        go_enter Try.func44, Try.ntmps44
        go_wp2
        go_ret2
        exact ⟨rfl, M0.out⟩
      · have ht2 : 0 ≤ r.to n := by omega
        rw [if_pos ⟨rfl, ht2⟩]
        go_enter Try.func44, Try.ntmps44
        go_wp2
        go_ret2
        exact ⟨rfl, M0.out⟩
  · have e : rOf r x = (0, false) := by
      unfold rOf
      rw [if_neg (fun g => hx ⟨g.1, g.2.1⟩)]
    rw [e]
    clear e h
    have hw : x < 0 ∨ (¬ x < 0 ∧ 5 < x) := by omega
    rcases hw with h1 | ⟨h1, h2⟩
    · go_enter Try.func44, Try.ntmps44
      go_wp2
      go_ret2
      exact ⟨rfl, M0.out⟩
    · go_enter Try.func44, Try.ntmps44
      go_wp2
      go_ret2
      exact ⟨rfl, M0.out⟩
end Go.Proofs.Ytmhkjamibcdcdaa
