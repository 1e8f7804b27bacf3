/- Package jitter: a buffer; what only looks. -/
import Derived.Test.YtlnikmcimmnbmaaJitE
import Derived.BigQuiet
namespace Go.Proofs.Ytlnikmcimmnbmaa
set_option linter.unusedSimpArgs false
set_option linter.unusedVariables false
open Go.RowKit Go.Lib
set_option maxRecDepth 100000

theorem Insert_any (L : List Hd) (i : Nat) (hi : i ≤ L.length) (h : Hd) (v : Value) (base : Nat) (w : World) (vb : Nat) (ok : InsOK L h v base w vb) :
    Calls Try.prog 120 #[v, .int .i64 i, .slice (some ⟨vb, 0, none⟩) 1 1] w (InsTo L i h v base w) := by
  by_cases e : i = L.length
  · subst e; exact Insert_end L h v base w vb ok
  · rcases ok.row.2 with ⟨_, h0⟩ | ⟨g, cap, _, rfl, _⟩
    · omega
    · by_cases hc : L.length + 1 ≤ cap
      · exact Insert_shift L i (by omega) h base w vb g cap ok hc
      · exact Insert_grow L i (by omega) h base w vb g cap ok (by omega)
/-- What a buffer is. -/
structure Jb where
  room : Int
  wait : Int
  holds : List Hd
  begun : Bool
  hi : Int
  bits : Int
def bufCells (b : Jb) (v : Value) : Array Value := #[.int .i64 b.room, .int .i64 b.wait, v, .bool b.begun, .int .i64 b.hi, .int .u64 b.bits]
structure BufAt (w : World) (R : Nat) (v : Value) (b : Jb) : Prop where
  blk : w.heap[R]? = some (.cells (bufCells b v) 191 (0, 0))
  row : HRow w (R + 1) v b.holds
theorem BufAt.on {w w' : World} {R : Nat} {v : Value} {b : Jb} (h : BufAt w R v b) (m : More w w') : BufAt w' R v b := ⟨blk_more m h.blk, h.row.more m⟩
theorem BufAt.cells {w : World} {R : Nat} {v : Value} {b : Jb} (h : BufAt w R v b) : ∀ x : Later w, x.w'.cell? ⟨R, 0, none⟩ = some (.int .i64 b.room) ∧ x.w'.cell? ⟨R, 1, none⟩ = some (.int .i64 b.wait) ∧ x.w'.cell? ⟨R, 2, none⟩ = some v ∧ x.w'.cell? ⟨R, 3, none⟩ = some (.bool b.begun) ∧ x.w'.cell? ⟨R, 4, none⟩ = some (.int .i64 b.hi) ∧ x.w'.cell? ⟨R, 5, none⟩ = some (.int .u64 b.bits) := fun x =>
  have k := blk_more x.h h.blk
  ⟨blk_cell k 0 rfl, blk_cell k 1 rfl, blk_cell k 2 rfl, blk_cell k 3 rfl, blk_cell k 4 rfl, blk_cell k 5 rfl⟩
abbrev Num60 (n : Int) : Prop := 0 ≤ n ∧ n ≤ 1152921504606846976
/-- What always holds of a buffer. -/
structure JOK (b : Jb) : Prop where
  room : 1 ≤ b.room ∧ b.room ≤ 8
  wait : 0 ≤ b.wait ∧ b.wait ≤ 1000
  fits : (b.holds.length : Int) ≤ b.room
  nums : ∀ h ∈ b.holds, Num60 h.1 ∧ Num60 h.2.1
  rise : b.holds.Pairwise fun a c => a.1 < c.1
  hi : Num60 b.hi
  bits : U64 b.bits
  over : b.begun = true → ∀ h ∈ b.holds, b.hi < h.1
def may60 (n : Int) : Bool := decide (Num60 n)
theorem may12_any (n : Int) (w : World) : Calls Try.prog 54 #[.int .i64 n] w fun e w' => e = .returned (.bool (may60 n)) ∧ w = w' := by
  by_cases h0 : 0 ≤ n
  · by_cases h1 : n ≤ 1152921504606846976
    · have hb : may60 n = true := decide_eq_true ⟨h0, h1⟩
      have HB := Lib.hid hb
      clear hb
      go_enter Try.func54, Try.ntmps54
      go_wp2
      go_ret
      exact ⟨by rw [HB.out]; rfl, rfl⟩
    · have hb : may60 n = false := decide_eq_false (fun h => h1 h.2)
      have HB := Lib.hid hb
      clear hb
      go_enter Try.func54, Try.ntmps54
      go_wp2
      go_ret
      exact ⟨by rw [HB.out]; rfl, rfl⟩
  · have hb : may60 n = false := decide_eq_false (fun h => h0 h.1)
    have HB := Lib.hid hb
    clear hb
    go_enter Try.func54, Try.ntmps54
    go_wp2
    go_ret
    exact ⟨by rw [HB.out]; rfl, rfl⟩
theorem SameN_any (n : Int) (B : Nat) (x : Hd) (w : World) (hB : w.heap[B]? = some (.cells #[.int .i64 n] 2 (0, 0))) :
    Calls Try.prog 115 #[.agg #[.int .i64 x.1, .int .i64 x.2.1, .int .i64 x.2.2], .pointer (some ⟨B, 0, none⟩)] w fun e w' => e = .returned (.bool (x.1 == n)) ∧ More w w' := by
  obtain ⟨x0, x1, x2⟩ := x
  have hb := lt_of_block hB
  have c0 : (w.alloc (.cells #[.int .i64 x0, .int .i64 x1, .int .i64 x2] 193)).cell? ⟨B, 0, none⟩ = some (.int .i64 n) := blk_cell (blk_alloc hB _) 0 rfl
  clear hB
  go_enter Try.func115, Try.ntmps115
  go_wp2
  go_ret
  exact ⟨rfl, More.alloc _ _⟩
theorem AboveN_any (n : Int) (B : Nat) (x : Hd) (w : World) (hB : w.heap[B]? = some (.cells #[.int .i64 n] 2 (0, 0))) :
    Calls Try.prog 116 #[.agg #[.int .i64 x.1, .int .i64 x.2.1, .int .i64 x.2.2], .pointer (some ⟨B, 0, none⟩)] w fun e w' => e = .returned (.bool (decide (n < x.1))) ∧ More w w' := by
  obtain ⟨x0, x1, x2⟩ := x
  have hb := lt_of_block hB
  have c0 : (w.alloc (.cells #[.int .i64 x0, .int .i64 x1, .int .i64 x2] 193)).cell? ⟨B, 0, none⟩ = some (.int .i64 n) := blk_cell (blk_alloc hB _) 0 rfl
  clear hB
  go_enter Try.func116, Try.ntmps116
  go_wp2
  go_ret
  exact ⟨rfl, More.alloc _ _⟩
theorem Len_any (b : Jb) (R : Nat) (v : Value) (w : World) (h : BufAt w R v b) :
    Calls Try.prog 58 #[.pointer (some ⟨R, 0, none⟩)] w fun e w' => e = .returned (.int .i64 b.holds.length) ∧ w = w' := by
  obtain ⟨c0, c1, c2, c3, c4, c5⟩ := h.cells ⟨w, More.refl _⟩
  obtain ⟨oa, cap, rfl, hl⟩ := h.row.shape
  clear h
  go_enter Try.func58, Try.ntmps58
  go_wp2
  go_ret
  exact ⟨rfl, rfl⟩
theorem Next_any (b : Jb) (R : Nat) (v : Value) (w : World) (h : BufAt w R v b) (hh : Num60 b.hi) :
    Calls Try.prog 113 #[.pointer (some ⟨R, 0, none⟩)] w fun e w' => e = .returned (.tuple #[.int .i64 (if b.begun then b.hi + 1 else 0), .bool b.begun]) ∧ w = w' := by
  obtain ⟨c0, c1, c2, c3, c4, c5⟩ := h.cells ⟨w, More.refl _⟩
  obtain ⟨h0, h1⟩ := hh
  clear h
  cases hb : b.begun with
  | true =>
    rw [hb] at c3
    go_enter Try.func113, Try.ntmps113
    go_wp2
    go_ret2
    exact ⟨rfl, rfl⟩
  | false =>
    rw [hb] at c3
    go_enter Try.func113, Try.ntmps113
    go_wp2
    go_ret2
    exact ⟨rfl, rfl⟩
end Go.Proofs.Ytlnikmcimmnbmaa
