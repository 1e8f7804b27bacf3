/- Package jitter: rows of held things; functions that look for one. -/
import Derived.Test.YtlnikmcimmnbmaaSeenA
import Derived.Test.YtlnikmcimmnbmaaSliceB
import Derived.Deep.AppendLies
namespace Go.Proofs.Ytlnikmcimmnbmaa
set_option linter.unusedSimpArgs false
set_option linter.unusedVariables false
open Go.RowKit
set_option maxRecDepth 100000

/-- A held thing: its number, since when, the thing. -/
abbrev Hd := Int × Int × Int
def hd1 (h : Hd) : List Value := [.int .i64 h.1, .int .i64 h.2.1, .int .i64 h.2.2]
def hdC (l : List Hd) : List Value := l.flatMap hd1
theorem hdC_cons (h : Hd) (l : List Hd) : hdC (h :: l) = hd1 h ++ hdC l := rfl
theorem hdC_app (k l : List Hd) : hdC (k ++ l) = hdC k ++ hdC l := by simp [hdC]
theorem hdC_len (l : List Hd) : (hdC l).length = l.length * 3 := by
  induction l with
  | nil => rfl
  | cons p l ih => rw [hdC_cons, List.length_append, ih, List.length_cons]; simp [hd1]; omega
theorem hdC_at : ∀ (l : List Hd) (i : Nat), i < l.length → (hdC l)[i * 3]? = some (.int .i64 (l.getD i (0, 0, 0)).1) ∧ (hdC l)[i * 3 + 1]? = some (.int .i64 (l.getD i (0, 0, 0)).2.1) ∧ (hdC l)[i * 3 + 2]? = some (.int .i64 (l.getD i (0, 0, 0)).2.2)
  | [], _, h => absurd h (by simp)
  | h :: l, 0, _ => ⟨rfl, rfl, rfl⟩
  | h :: l, i + 1, hi => by
    have ih := hdC_at l i (by simpa using hi)
    have e : ∀ c, (hdC (h :: l))[(i + 1) * 3 + c]? = (hdC l)[i * 3 + c]? := by
      intro c
      rw [hdC_cons, List.getElem?_append_right (by simp [hd1]; omega)]
      congr 1
      simp [hd1]; omega
    have e0 := e 0
    rw [Nat.add_zero, Nat.add_zero] at e0
    rw [e0, e 1, e 2]
    exact ih
theorem hdC_one (l : List Hd) : ∀ u ∈ hdC l, u.oneCell' = true := by
  intro u hu
  obtain ⟨h, _, hu⟩ := List.mem_flatMap.1 hu
  simp [hd1] at hu
  rcases hu with rfl | rfl | rfl <;> rfl
/-- A row of held things, as a slice. -/
def HRow (w : World) (base : Nat) (v : Value) (L : List Hd) : Prop := w.ownsRow base 193 3 v L.length (hdC L)
theorem HRow.more {w w' : World} {base : Nat} {v : Value} {L : List Hd} (h : HRow w base v L) (m : More w w') : HRow w' base v L := owns_more h m
theorem HRow.shape {w : World} {base : Nat} {v : Value} {L : List Hd} (h : HRow w base v L) : ∃ oa cap, v = .slice oa L.length cap ∧ (L.length : Int) ≤ 9223372036854775807 := by
  rcases h.2 with ⟨rfl, h0⟩ | ⟨g, cap, cur, rfl, _, _, hn, hm, _⟩
  · exact ⟨none, 0, by rw [h0], by omega⟩
  · exact ⟨_, cap, rfl, by unfold maxLen at hm; omega⟩
theorem HRow.cell {w : World} {base : Nat} {v : Value} {L : List Hd} (h : HRow w base v L) (i : Nat) (hi : i < L.length) :
    ∃ g cap, v = .slice (some ⟨g, 0, none⟩) L.length cap ∧ base ≤ g ∧ g < w.heap.size ∧ ∀ x, More w x → x.cell? ⟨g, i * 3, none⟩ = some (.int .i64 (L.getD i (0, 0, 0)).1) ∧ x.cell? ⟨g, i * 3 + 1, none⟩ = some (.int .i64 (L.getD i (0, 0, 0)).2.1) ∧ x.cell? ⟨g, i * 3 + 2, none⟩ = some (.int .i64 (L.getD i (0, 0, 0)).2.2) := by
  rcases h.2 with ⟨rfl, h0⟩ | ⟨g, cap, cur, rfl, hb, hg, hnc, hm, hs, ht⟩
  · omega
  · refine ⟨g, cap, rfl, hb, lt_of_block hg, fun x m => ?_⟩
    obtain ⟨a0, a1, a2⟩ := hdC_at L i hi
    have key : ∀ j, j < L.length * 3 → x.cell? ⟨g, j, none⟩ = (hdC L)[j]? := by
      intro j hj
      rw [m.cells g j (lt_of_block hg), cell_of_row w g _ cur _ (0, 0) hg, ← ht, List.getElem?_take, if_pos hj]
      simp
    exact ⟨by rw [key _ (by omega)]; exact a0, by rw [key _ (by omega)]; exact a1, by rw [key _ (by omega)]; exact a2⟩
/-- The first place where it holds, or -1. -/
def idxJ (p : Hd → Bool) (L : List Hd) : Int := if L.findIdx p < L.length then (L.findIdx p : Int) else -1
theorem idxJ_hit {p : Hd → Bool} {L : List Hd} {k : Nat} (hk : k < L.length) (h : p (L.getD k (0, 0, 0)) = true) (hb : ∀ j, j < k → p (L.getD j (0, 0, 0)) = false) : idxJ p L = k := by
  have e : L.findIdx p = k := by
    rw [List.findIdx_eq hk]
    rw [List.getD_eq_getElem?_getD, List.getElem?_eq_getElem hk, Option.getD_some] at h
    refine ⟨h, fun j hj => ?_⟩
    have := hb j hj
    rwa [List.getD_eq_getElem?_getD, List.getElem?_eq_getElem (by omega), Option.getD_some] at this
  unfold idxJ
  rw [e, if_pos hk]
theorem idxJ_miss {p : Hd → Bool} {L : List Hd} (hb : ∀ j, j < L.length → p (L.getD j (0, 0, 0)) = false) : idxJ p L = -1 := by
  have e : L.findIdx p = L.length := by
    rw [List.findIdx_eq_length]
    intro x hx
    obtain ⟨j, hj, rfl⟩ := List.mem_iff_getElem.1 hx
    have := hb j hj
    rwa [List.getD_eq_getElem?_getD, List.getElem?_eq_getElem hj, Option.getD_some] at this
  unfold idxJ
  rw [e, if_neg (Nat.lt_irrefl _)]
theorem idxJ_any (p : Hd → Bool) (L : List Hd) : decide (0 ≤ idxJ p L) = L.any p := by
  unfold idxJ
  by_cases h : L.findIdx p < L.length
  · rw [if_pos h, decide_eq_true (by omega)]
    exact (List.any_eq_true.2 ⟨L[L.findIdx p], List.getElem_mem _, List.findIdx_getElem⟩).symm
  · rw [if_neg h]
    have e : L.any p = false := by
      rw [List.any_eq_false]
      intro x hx hp
      exact h (List.findIdx_lt_length_of_exists ⟨x, hx, hp⟩)
    rw [e]; rfl
/-- What is asked of a function value that looks at held things. -/
def Looks (g : Nat) (lb : Array Value) (p : Hd → Bool) (L : List Hd) (w : World) : Prop :=
  ∀ (W : World) (x : Hd), x ∈ L → More w W → Calls Try.prog g (#[.agg #[.int .i64 x.1, .int .i64 x.2.1, .int .i64 x.2.2]] ++ lb) W fun e w' => e = .returned (.bool (p x)) ∧ More W w'
set_option maxHeartbeats 1000000 in
theorem IndexFunc_any (g : Nat) (lb : Array Value) (p : Hd → Bool) (eg : ∀ args w, (callFunc g args).run Try.prog w = .ok (.enter g args) w) (L : List Hd) (v : Value) (base : Nat) (w : World) (row : HRow w base v L) (hp : Looks g lb p L w) :
    Calls Try.prog 119 #[v, .func (.func g) #[] lb] w fun e w' => e = .returned (.int .i64 (idxJ p L)) ∧ More w w' := by
  have HR := Lib.hid row
  have HP := Lib.hid hp
  obtain ⟨oa, cap, rfl, h63⟩ := row.shape
  clear row hp
  go_enter Try.func119, Try.ntmps119
  go_wp2
  go_loopw [5, 8] (fun _ ix wr => ∃ k : Nat, k ≤ L.length ∧ ix = .int .i64 k ∧ (∀ j, j < k → p (L.getD j (0, 0, 0)) = false) ∧ More w wr) (fun _ ix _ => L.length - (intOf ix).toNat)
  case atStart => exact ⟨0, by omega, rfl, fun j hj => absurd hj (Nat.not_lt_zero _), More.refl _⟩
  case round =>
    obtain ⟨k, hk, rfl, hall, hm⟩ := hrel
    have HA := Lib.hid hall
    have HM := Lib.hid hm
    clear hall
    by_cases hlt : k < L.length
    · have hlti : (k : Int) < (L.length : Int) := by omega
      obtain ⟨b, c, e, _, hbl, hc⟩ := HR.out.cell k hlt
      cases e
      obtain ⟨c0, c1, c2⟩ := hc wr hm
      have hcall := HP.out wr (L.getD k (0, 0, 0)) (by rw [List.getD_eq_getElem?_getD, List.getElem?_eq_getElem hlt]; exact List.getElem_mem hlt) hm
      have HY : Hid (p (L.getD k (0, 0, 0)) = true → idxJ p L = k) := Lib.hid fun h => idxJ_hit hlt h HA.out
      have HN : Hid (p (L.getD k (0, 0, 0)) = false → ∀ j, j < k + 1 → p (L.getD j (0, 0, 0)) = false) := Lib.hid fun h j hj => by
        by_cases e : j = k
        · subst e; exact h
        · exact HA.out j (by omega)
      clear hc hm HA
      generalize L.getD k (0, 0, 0) = y at *
      obtain ⟨y0, y1, y2⟩ := y
      simp only at c0 c1 c2 hcall
      cases hq : p (y0, y1, y2) with
      | true =>
        rw [hq] at hcall
        have H1 := Lib.hid (HY.out hq)
        clear HY HN hq
        go_wp2_with (refine hcall.mono ?_; rintro e w' ⟨rfl, hb'⟩; have HB := Lib.hid hb'; clear hb' hcall eg)
        go_ret
        exact ⟨by rw [H1.out]; rfl, HM.out.trans HB.out⟩
      | false =>
        rw [hq] at hcall
        have H1 := Lib.hid (HN.out hq)
        clear HY HN hq
        go_wp2_with (refine hcall.mono ?_; rintro e w' ⟨rfl, hb'⟩; have HB := Lib.hid hb'; clear hb' hcall eg)
        go_roundw
        case rel => exact ⟨k + 1, by omega, by go_num, H1.out, HM.out.trans HB.out⟩
        case measure => simp [intOf]; omega
    · obtain rfl : k = L.length := by omega
      have H1 := Lib.hid (idxJ_miss HA.out)
      have hlti : ¬ (L.length : Int) < (L.length : Int) := by omega
      go_wp2
      go_ret
      exact ⟨by rw [H1.out]; rfl, HM.out⟩
theorem ContainsFunc_any (g : Nat) (lb : Array Value) (p : Hd → Bool) (eg : ∀ args w, (callFunc g args).run Try.prog w = .ok (.enter g args) w) (L : List Hd) (v : Value) (base : Nat) (w : World) (row : HRow w base v L) (hp : Looks g lb p L w) :
    Calls Try.prog 117 #[v, .func (.func g) #[] lb] w fun e w' => e = .returned (.bool (L.any p)) ∧ More w w' := by
  have HR := Lib.hid row
  have HP := Lib.hid hp
  obtain ⟨oa, cap, rfl, h63⟩ := row.shape
  rw [← idxJ_any]
  clear row hp
  go_enter Try.func117, Try.ntmps117
  go_wp2_with (go_at_call 119; ((with_reducible refine (IndexFunc_any g lb p eg L _ base _ HR.out HP.out).mono ?_); rintro e w1 ⟨rfl, m1⟩))
  go_ret
  exact ⟨rfl, m1⟩
end Go.Proofs.Ytlnikmcimmnbmaa
