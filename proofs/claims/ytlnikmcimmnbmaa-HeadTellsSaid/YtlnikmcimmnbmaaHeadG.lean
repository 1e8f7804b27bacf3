/- Packets: HeadCuts, walked. -/
import Derived.Test.YtlnikmcimmnbmaaHeadF
namespace Go.Proofs.Ytlnikmcimmnbmaa
set_option linter.unusedSimpArgs false
set_option linter.unusedVariables false
open Go.RowKit
set_option maxRecDepth 100000

/-- Is a packet more than is looked at? -/
def lrgH (p : Pk) : Bool := decide (40 < (p.ss.length : Int)) || (decide (1000 < (p.ex.length : Int)) || decide (1000 < (p.pl.length : Int)))
theorem lrgH_no {p : Pk} (h : lrgH p = false) : PkSm p ∧ p.pl.length ≤ 1000 := by
  unfold lrgH at h
  simp at h
  exact ⟨⟨by omega, by omega, by omega⟩, by omega⟩
set_option maxHeartbeats 1000000 in
theorem large04d (p : Pk) (vs ve vp : Value) (w : World) (h : PkS w vs ve vp p) :
    Calls Try.prog 26 #[.agg #[.bool p.mr, .int .u8 p.ty, .int .u16 p.sq, .int .u32 p.st, .int .u32 p.sc, vs, .bool p.has, .int .u16 p.pr, ve, vp]] w fun e w' => e = .returned (.bool (lrgH p)) ∧ More w w' := by
  obtain ⟨⟨os, ks, rfl, -⟩, ⟨oe, ke, rfl, -⟩, ⟨ol, kl, rfl, -⟩⟩ := h
  obtain ⟨mr, ty, sq, st, sc, ss, has, pr, ex, pl⟩ := p
  simp only
  have hd : lrgH ⟨mr, ty, sq, st, sc, ss, has, pr, ex, pl⟩ = (decide (40 < (ss.length : Int)) || (decide (1000 < (ex.length : Int)) || decide (1000 < (pl.length : Int)))) := rfl
  have hm := Lib.hid (More.alloc w (.cells #[.bool mr, .int .u8 ty, .int .u16 sq, .int .u32 st, .int .u32 sc, (.slice os ss.length ks), .bool has, .int .u16 pr, (.slice oe ex.length ke), (.slice ol pl.length kl)] 57))
  by_cases h1 : 40 < (ss.length : Int)
  · rw [hd, decide_eq_true h1]
    clear hd
    go_enter Try.func26, Try.ntmps26
    go_wp2
    go_ret
    exact ⟨rfl, hm.out⟩
  · by_cases h2 : 1000 < (ex.length : Int)
    · rw [hd, decide_eq_false h1, decide_eq_true h2]
      clear hd
      go_enter Try.func26, Try.ntmps26
      go_wp2
      go_ret
      exact ⟨rfl, hm.out⟩
    · by_cases h3 : 1000 < (pl.length : Int)
      · rw [hd, decide_eq_false h1, decide_eq_false h2, decide_eq_true h3]
        clear hd
        go_enter Try.func26, Try.ntmps26
        go_wp2
        go_ret
        exact ⟨rfl, hm.out⟩
      · rw [hd, decide_eq_false h1, decide_eq_false h2, decide_eq_false h3]
        clear hd
        go_enter Try.func26, Try.ntmps26
        go_wp2
        go_ret
        exact ⟨rfl, hm.out⟩
theorem blk10 {w : World} {B : Nat} {t : TypeId} {v0 v1 v2 v3 v4 v5 v6 v7 v8 v9 : Value} (h : w.heap[B]? = some (.cells #[v0, v1, v2, v3, v4, v5, v6, v7, v8, v9] t (0, 0))) :
    w.cell? ⟨B, 0, none⟩ = some v0 ∧ w.cell? ⟨B, 1, none⟩ = some v1 ∧ w.cell? ⟨B, 2, none⟩ = some v2 ∧ w.cell? ⟨B, 3, none⟩ = some v3 ∧ w.cell? ⟨B, 4, none⟩ = some v4 ∧ w.cell? ⟨B, 5, none⟩ = some v5 ∧ w.cell? ⟨B, 6, none⟩ = some v6 ∧ w.cell? ⟨B, 7, none⟩ = some v7 ∧ w.cell? ⟨B, 8, none⟩ = some v8 ∧ w.cell? ⟨B, 9, none⟩ = some v9 :=
  ⟨blk_cell h 0 rfl, blk_cell h 1 rfl, blk_cell h 2 rfl, blk_cell h 3 rfl, blk_cell h 4 rfl, blk_cell h 5 rfl, blk_cell h 6 rfl, blk_cell h 7 rfl, blk_cell h 8 rfl, blk_cell h 9 rfl⟩
/-- A store into a cell that holds no such number. -/
theorem SlI.st_other {k : IntKind} {w : World} {v : Value} {L : List Int} (h : SlI k w v L) (a : Addr) (u : Value) (hp : ∀ n, w.cell? a ≠ some (.int k n)) : SlI k (w.setCell a u) v L := by
  obtain ⟨oa, cap, h1, h2, h3, h4⟩ := h
  refine ⟨oa, cap, h1, h2, fun i hi => ?_, h4⟩
  obtain ⟨b, off, e, hb, hc⟩ := h3 i hi
  refine ⟨b, off, e, ?_, ?_⟩
  · exact Nat.lt_of_lt_of_le hb (((Away.refl (fun x => x = a.block) w).set (p := a) rfl u).size)
  · have hne : a ≠ ⟨b, off + i, none⟩ := fun e2 => hp _ (by rw [e2]; exact hc)
    rw [World.cell?_setCell_other (h := hne)]
    exact hc
/-- A part of a slice, told by a byte. -/
theorem sl_part8 {w : World} {v : Value} {L : List Int} (h : SlI .u8 w v L) (a n m : Nat) (hn : m ≤ L.length) (hm : m = a + n) :
    ∃ v', (∀ w', (Instr.sliceAt 28 v (some (.int .i64 (a : Int))) (some (.int .u8 (m : Int))) none).run Try.prog w' = .ok v' w') ∧ SlI .u8 w v' ((L.drop a).take n) ∧ ∃ oa c, v' = .slice oa n c := by
  subst hm
  obtain ⟨v', hv, hs, he⟩ := sl_part h a n hn
  obtain ⟨oa, cap, rfl, h1, h2, h3, h4, h5⟩ := h
  refine ⟨v', fun w' => ?_, hs, he⟩
  rw [← hv w']
  have g1 : (0 : Int) ≤ (a : Int) := by omega
  have g2 : (a : Int) ≤ (a : Int) + (n : Int) := by omega
  have g3 : (a : Int) + (n : Int) ≤ (cap : Int) := by omega
  have g4 : (0 : Int) ≤ (a : Int) + (n : Int) := by omega
  have g5 : ((a : Int) + (n : Int)).toNat - a = n := by omega
  have g6 : a ≤ ((a : Int) + (n : Int)).toNat := by omega
  simp [go_sem, Try.underlying28, g1, g2, g3, g4, g5, g6]
theorem sl_upto8 {w : World} {v : Value} {L : List Int} (h : SlI .u8 w v L) (n : Nat) (hn : n ≤ L.length) :
    ∃ v', (∀ w', (Instr.sliceAt 28 v none (some (.int .u8 (n : Int))) none).run Try.prog w' = .ok v' w') ∧ SlI .u8 w v' (L.take n) := by
  obtain ⟨oa, cap, rfl, h1, h2, h3, h4, h5⟩ := h
  have S0 : SlI .u8 w (.slice oa L.length cap) L := ⟨oa, cap, rfl, h1, h2, h3, h4, h5⟩
  have g3 : (n : Int) ≤ (cap : Int) := by omega
  refine ⟨.slice oa n cap, fun w' => ?_, S0.take n hn⟩
  by_cases hc : cap = 0
  · subst hc
    have e0 : n = 0 := by omega
    subst e0
    simp [go_sem, Try.underlying28]
  · simp [go_sem, Try.underlying28, g3, hc]
end Go.Proofs.Ytlnikmcimmnbmaa
