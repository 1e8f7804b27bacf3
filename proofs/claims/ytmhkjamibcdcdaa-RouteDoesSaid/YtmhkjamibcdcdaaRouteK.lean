/- The document's table of package route: Join, Leave, Unsubscribe, Subscribe. -/
import Derived.Test.YtmhkjamibcdcdaaRouteJ
namespace Go.Proofs.Ytmhkjamibcdcdaa
open Go.RowKit
set_option maxRecDepth 100000

def RefPost (R : Nat) (q : RS × Int) (w : World) (e : Ending) (w' : World) : Prop := e = .returned (.int .i64 q.2) ∧ RefAt w' R q.1 ∧ Away (fun z => z = R) w w'
theorem RefAt.set_he {w : World} {R : Nat} {r : RS} (h : RefAt w R r) (x : Nat) (hx : x < 6) (v : Bool) : RefAt (w.setCell ⟨R, 12 + x, none⟩ (.bool v)) R { r with he := upd r.he x v } := by
  have := blk_set h (12 + x) (.bool v)
  rw [RC_set_he r x hx] at this
  exact this
theorem RefAt.set_ow {w : World} {R : Nat} {r : RS} (h : RefAt w R r) (x : Nat) (hx : x < 6) (v : Int) : RefAt (w.setCell ⟨R, 18 + x, none⟩ (.int .u32 v)) R { r with ow := upd r.ow x v } := by
  have := blk_set h (18 + x) (.int .u32 v)
  rw [RC_set_ow r x hx] at this
  exact this
theorem RefAt.set_to {w : World} {R : Nat} {r : RS} (h : RefAt w R r) (x : Nat) (hx : x < 6) (v : Int) : RefAt (w.setCell ⟨R, 24 + x, none⟩ (.int .i64 v)) R { r with to := upd r.to x v } := by
  have := blk_set h (24 + x) (.int .i64 v)
  rw [RC_set_to r x hx] at this
  exact this
theorem RefAt.more {w w' : World} {R : Nat} {r : RS} (h : RefAt w R r) (m : More w w') : RefAt w' R r := blk_more m h
theorem RefAt.away {w w' : World} {R : Nat} {r : RS} {S : Nat → Prop} (h : RefAt w R r) (m : Away S w w') (hs : ¬ S R) : RefAt w' R r := m.blk h hs
theorem away_cell {w : World} {R : Nat} (i : Nat) (v : Value) : Away (fun z => z = R) w (w.setCell ⟨R, i, none⟩ v) := Away.set (Away.refl (fun z => z = R) w) (p := ⟨R, i, none⟩) rfl v
def rJoin (r : RS) (x own : Int) : RS × Int := if 0 ≤ x ∧ x < 6 then (if r.he x.toNat = true then (r, 6) else ({ r with he := upd r.he x.toNat true, ow := upd r.ow x.toNat own, to := upd r.to x.toNat (-1) }, 0)) else (r, 1)
def rLeave (r : RS) (x : Int) : RS × Int := if 0 ≤ x ∧ x < 6 then (if r.he x.toNat = true then ({ r with he := upd r.he x.toNat false }, 0) else (r, 5)) else (r, 1)
def rSub (r : RS) (x p : Int) : RS × Int := if (0 ≤ x ∧ x < 6) ∧ (0 ≤ p ∧ p < 3) then (if r.he x.toNat = true ∧ r.pb p.toNat = true then (if 0 ≤ r.to x.toNat then (r, 6) else ({ r with to := upd r.to x.toNat p }, 0)) else (r, 5)) else (r, 1)
def rUnsub (r : RS) (x : Int) : RS × Int := if 0 ≤ x ∧ x < 6 then (if r.he x.toNat = true ∧ 0 ≤ r.to x.toNat then ({ r with to := upd r.to x.toNat (-1) }, 0) else (r, 5)) else (r, 1)
set_option maxHeartbeats 1000000 in
theorem RLeave {w : World} {R : Nat} {r : RS} (h : RefAt w R r) (x : Int) :
    Calls Try.prog 84 #[.pointer (some ⟨R, 0, none⟩), .int .i64 x] w (RefPost R (rLeave r x) w) := by
  have H := Lib.hid h
  by_cases hx : 0 ≤ x ∧ x < 6
  · have e : rLeave r x = if r.he x.toNat = true then ({ r with he := upd r.he x.toNat false }, 0) else (r, 5) := by
      unfold rLeave
      rw [if_pos hx]
    obtain ⟨n, rfl⟩ : ∃ n : Nat, x = n := ⟨x.toNat, by omega⟩
    have hn : n < 6 := by omega
    have c0 := blk_cell h (12 + n) (RC_he r n hn)
    have c1 := blk_cell h (24 + n) (RC_to r n hn)
    have l1 : ¬ (n : Int) < 0 := by omega
    have l2 : ¬ (5 : Int) < (n : Int) := by omega
    have hN : (n : Int) < 6 := by omega
    have hN0 : 0 ≤ (n : Int) := by omega
    have fz := blk_free h (12 + n)
    simp only [Int.toNat_natCast] at e
    cases hh : r.he n with
    | false =>
      rw [hh] at c0 e
      simp only [Bool.false_eq_true, if_false] at e
      rw [e]
      clear h
      go_enter Try.func84, Try.ntmps84
      go_wp2
      go_ret
      exact ⟨rfl, H.out, Away.refl _ _⟩
    | true =>
      rw [hh] at c0 e
      simp only [if_true] at e
      rw [e]
      clear h
      go_enter Try.func84, Try.ntmps84
      go_wp2
      go_ret
      exact ⟨rfl, H.out.set_he n hn false, away_cell _ _⟩
  · have e : rLeave r x = (r, 1) := by
      unfold rLeave
      rw [if_neg hx]
    have hw : x < 0 ∨ (¬ x < 0 ∧ 5 < x) := by omega
    rcases hw with h1 | ⟨h1, h2⟩
    · skip
      rw [e]
      clear h
      go_enter Try.func84, Try.ntmps84
      go_wp2
      go_ret
      exact ⟨rfl, H.out, Away.refl _ _⟩
    · skip
      rw [e]
      clear h
      go_enter Try.func84, Try.ntmps84
      go_wp2
      go_ret
      exact ⟨rfl, H.out, Away.refl _ _⟩
set_option maxHeartbeats 1000000 in
theorem RJoin {w : World} {R : Nat} {r : RS} (h : RefAt w R r) (x own : Int) :
    Calls Try.prog 83 #[.pointer (some ⟨R, 0, none⟩), .int .i64 x, .int .u32 own] w (RefPost R (rJoin r x own) w) := by
  have H := Lib.hid h
  by_cases hx : 0 ≤ x ∧ x < 6
  · have e : rJoin r x own = if r.he x.toNat = true then (r, 6) else ({ r with he := upd r.he x.toNat true, ow := upd r.ow x.toNat own, to := upd r.to x.toNat (-1) }, 0) := by
      unfold rJoin
      rw [if_pos hx]
    obtain ⟨n, rfl⟩ : ∃ n : Nat, x = n := ⟨x.toNat, by omega⟩
    have hn : n < 6 := by omega
    have c0 := blk_cell h (12 + n) (RC_he r n hn)
    have c1 := blk_cell h (24 + n) (RC_to r n hn)
    have l1 : ¬ (n : Int) < 0 := by omega
    have l2 : ¬ (5 : Int) < (n : Int) := by omega
    have hN : (n : Int) < 6 := by omega
    have hN0 : 0 ≤ (n : Int) := by omega
    have fz := blk_free h (12 + n)
    have h2 := h.set_he n hn true
    have fz2 := blk_free h2 (18 + n)
    have d2 := blk_cell h2 (18 + n) (RC_ow _ n hn)
    have h3 := h2.set_ow n hn own
    have fz3 := blk_free h3 (24 + n)
    have d3 := blk_cell h3 (24 + n) (RC_to _ n hn)
    have H3 := Lib.hid h3
    clear h2 h3
    simp only [Int.toNat_natCast] at e
    cases hh : r.he n with
    | true =>
      rw [hh] at c0 e
      simp only [if_true] at e
      rw [e]
      clear h
      go_enter Try.func83, Try.ntmps83
      go_wp2
      go_ret
      exact ⟨rfl, H.out, Away.refl _ _⟩
    | false =>
      rw [hh] at c0 e
      simp only [Bool.false_eq_true, if_false] at e
      rw [e]
      clear h
      go_enter Try.func83, Try.ntmps83
      go_wp2
      go_ret
      exact ⟨rfl, H3.out.set_to n hn (-1), ((away_cell _ _).trans (away_cell _ _)).trans (away_cell _ _)⟩
  · have e : rJoin r x own = (r, 1) := by
      unfold rJoin
      rw [if_neg hx]
    have hw : x < 0 ∨ (¬ x < 0 ∧ 5 < x) := by omega
    rcases hw with h1 | ⟨h1, h2⟩
    · skip
      rw [e]
      clear h
      go_enter Try.func83, Try.ntmps83
      go_wp2
      go_ret
      exact ⟨rfl, H.out, Away.refl _ _⟩
    · skip
      rw [e]
      clear h
      go_enter Try.func83, Try.ntmps83
      go_wp2
      go_ret
      exact ⟨rfl, H.out, Away.refl _ _⟩
set_option maxHeartbeats 1000000 in
theorem RUnsub {w : World} {R : Nat} {r : RS} (h : RefAt w R r) (x : Int) :
    Calls Try.prog 86 #[.pointer (some ⟨R, 0, none⟩), .int .i64 x] w (RefPost R (rUnsub r x) w) := by
  have H := Lib.hid h
  by_cases hx : 0 ≤ x ∧ x < 6
  · have e : rUnsub r x = if r.he x.toNat = true ∧ 0 ≤ r.to x.toNat then ({ r with to := upd r.to x.toNat (-1) }, 0) else (r, 5) := by
      unfold rUnsub
      rw [if_pos hx]
    obtain ⟨n, rfl⟩ : ∃ n : Nat, x = n := ⟨x.toNat, by omega⟩
    have hn : n < 6 := by omega
    have c0 := blk_cell h (12 + n) (RC_he r n hn)
    have c1 := blk_cell h (24 + n) (RC_to r n hn)
    have l1 : ¬ (n : Int) < 0 := by omega
    have l2 : ¬ (5 : Int) < (n : Int) := by omega
    have hN : (n : Int) < 6 := by omega
    have hN0 : 0 ≤ (n : Int) := by omega
    have fz := blk_free h (24 + n)
    simp only [Int.toNat_natCast] at e
    cases hh : r.he n with
    | false =>
      rw [hh] at c0 e
      simp only [Bool.false_eq_true, false_and, if_false] at e
      rw [e]
      clear h
      go_enter Try.func86, Try.ntmps86
      go_wp2
      go_ret
      exact ⟨rfl, H.out, Away.refl _ _⟩
    | true =>
      rw [hh] at c0 e
      by_cases ht : r.to n < 0
      · have ht2 : ¬ 0 ≤ r.to n := by omega
        rw [if_neg (fun g => ht2 g.2)] at e
        rw [e]
        clear h
        go_enter Try.func86, Try.ntmps86
        go_wp2
        go_ret
        exact ⟨rfl, H.out, Away.refl _ _⟩
      · have ht2 : 0 ≤ r.to n := by omega
        rw [if_pos ⟨rfl, ht2⟩] at e
        rw [e]
        clear h
        go_enter Try.func86, Try.ntmps86
        go_wp2
        go_ret
        exact ⟨rfl, H.out.set_to n hn (-1), away_cell _ _⟩
  · have e : rUnsub r x = (r, 1) := by
      unfold rUnsub
      rw [if_neg hx]
    have hw : x < 0 ∨ (¬ x < 0 ∧ 5 < x) := by omega
    rcases hw with h1 | ⟨h1, h2⟩
    · skip
      rw [e]
      clear h
      go_enter Try.func86, Try.ntmps86
      go_wp2
      go_ret
      exact ⟨rfl, H.out, Away.refl _ _⟩
    · skip
      rw [e]
      clear h
      go_enter Try.func86, Try.ntmps86
      go_wp2
      go_ret
      exact ⟨rfl, H.out, Away.refl _ _⟩
set_option maxHeartbeats 1000000 in
theorem RSub {w : World} {R : Nat} {r : RS} (h : RefAt w R r) (x p : Int) :
    Calls Try.prog 85 #[.pointer (some ⟨R, 0, none⟩), .int .i64 x, .int .i64 p] w (RefPost R (rSub r x p) w) := by
  have H := Lib.hid h
  by_cases hx : 0 ≤ x ∧ x < 6
  · by_cases hp : 0 ≤ p ∧ p < 3
    · have e : rSub r x p = if r.he x.toNat = true ∧ r.pb p.toNat = true then (if 0 ≤ r.to x.toNat then (r, 6) else ({ r with to := upd r.to x.toNat p }, 0)) else (r, 5) := by
        unfold rSub
        rw [if_pos ⟨hx, hp⟩]
      obtain ⟨n, rfl⟩ : ∃ n : Nat, x = n := ⟨x.toNat, by omega⟩
      have hn : n < 6 := by omega
      have c0 := blk_cell h (12 + n) (RC_he r n hn)
      have c1 := blk_cell h (24 + n) (RC_to r n hn)
      have l1 : ¬ (n : Int) < 0 := by omega
      have l2 : ¬ (5 : Int) < (n : Int) := by omega
      have hN : (n : Int) < 6 := by omega
      have hN0 : 0 ≤ (n : Int) := by omega
      obtain ⟨m, rfl⟩ : ∃ m : Nat, p = m := ⟨p.toNat, by omega⟩
      have hm : m < 3 := by omega
      have c2 := blk_cell h m (RC_pb r m hm)
      have l3 : ¬ (m : Int) < 0 := by omega
      have l4 : ¬ (2 : Int) < (m : Int) := by omega
      have hM : (m : Int) < 3 := by omega
      have hM0 : 0 ≤ (m : Int) := by omega
      have fz := blk_free h (24 + n)
      simp only [Int.toNat_natCast] at e
      cases hh : r.he n with
      | false =>
        rw [hh] at c0 e
        simp only [Bool.false_eq_true, false_and, if_false] at e
        rw [e]
        clear h
        go_enter Try.func85, Try.ntmps85
        go_wp2
        go_ret
        exact ⟨rfl, H.out, Away.refl _ _⟩
      | true =>
        rw [hh] at c0 e
        cases hb : r.pb m with
        | false =>
          rw [hb] at c2 e
          simp only [Bool.false_eq_true, and_false, if_false] at e
          rw [e]
          clear h
          go_enter Try.func85, Try.ntmps85
          go_wp2
          go_ret
          exact ⟨rfl, H.out, Away.refl _ _⟩
        | true =>
          rw [hb] at c2 e
          rw [if_pos ⟨rfl, rfl⟩] at e
          by_cases ht : r.to n < 0
          · have ht2 : ¬ 0 ≤ r.to n := by omega
            rw [if_neg ht2] at e
            rw [e]
            clear h
            go_enter Try.func85, Try.ntmps85
            go_wp2
            go_ret
            exact ⟨rfl, H.out.set_to n hn _, away_cell _ _⟩
          · have ht2 : 0 ≤ r.to n := by omega
            rw [if_pos ht2] at e
            rw [e]
            clear h
            go_enter Try.func85, Try.ntmps85
            go_wp2
            go_ret
            exact ⟨rfl, H.out, Away.refl _ _⟩
    · have e : rSub r x p = (r, 1) := by
        unfold rSub
        rw [if_neg (fun g => hp g.2)]
      have l1 : ¬ x < 0 := by omega
      have l2 : ¬ (5 : Int) < x := by omega
      have hw : p < 0 ∨ (¬ p < 0 ∧ 2 < p) := by omega
      rcases hw with h1 | ⟨h1, h2⟩
      · skip
        rw [e]
        clear h
        go_enter Try.func85, Try.ntmps85
        go_wp2
        go_ret
        exact ⟨rfl, H.out, Away.refl _ _⟩
      · skip
        rw [e]
        clear h
        go_enter Try.func85, Try.ntmps85
        go_wp2
        go_ret
        exact ⟨rfl, H.out, Away.refl _ _⟩
  · have e : rSub r x p = (r, 1) := by
      unfold rSub
      rw [if_neg (fun g => hx g.1)]
    have hw : x < 0 ∨ (¬ x < 0 ∧ 5 < x) := by omega
    rcases hw with h1 | ⟨h1, h2⟩
    · skip
      rw [e]
      clear h
      go_enter Try.func85, Try.ntmps85
      go_wp2
      go_ret
      exact ⟨rfl, H.out, Away.refl _ _⟩
    · skip
      rw [e]
      clear h
      go_enter Try.func85, Try.ntmps85
      go_wp2
      go_ret
      exact ⟨rfl, H.out, Away.refl _ _⟩
end Go.Proofs.Ytmhkjamibcdcdaa
