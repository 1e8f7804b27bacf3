/- Acts on tables: how they read; a table without one subscriber. -/
import Derived.Test.YtmhkjamibcdcdaaRouteE
import Derived.Test.YtmhkjamibcdcdaaRead
namespace Go.Proofs.Ytmhkjamibcdcdaa
open Go.RowKit
set_option maxRecDepth 100000

theorem opens_map19 {P : Program} {t : TypeId} {α β : Type} {R : Reader α} {Q : Reader β} {fs : Array Field} {n : Nat} (h : Opens P t R) (ht : P.underlying t = some (.struct fs)) (hn : P.cellsOf t = n) (k : ∀ w cs y, cs.length = n → R w cs y → ∃ z, Q w cs z) : Opens P t Q := fun H enc w base spare held fuel cs x hx => by
  obtain ⟨y, hy⟩ := h H enc w base spare held fuel cs x hx
  refine k w cs y ?_ hy
  obtain ⟨_, _, _, _, hl, _⟩ := DataW.trod_struct ht hx
  rw [hl, hn]
def RAct19 : Reader A19 := fun _ cs y => cs = [.int .i64 y.d, .int .i64 y.x, .int .i64 y.p, .int .u32 y.own, .int .u32 y.s0, .int .u32 y.s1, .int .u32 y.s2]
theorem opensAct19 : Opens Try.prog 88 RAct19 :=
  opens_map19 (R := RCons 1 (RInt .i64) (RCons 1 (RInt .i64) (RCons 1 (RInt .i64) (RCons 1 (RInt .u32) (RCons 3 (RArr 3 1 (RInt .u32)) RNil))))) (n := 7) (Opens.struct Try.underlying88 (by kernel_rfl) (OpensF.cons rfl (by kernel_rfl) (Opens.int Try.underlying3) (OpensF.cons rfl (by kernel_rfl) (Opens.int Try.underlying3) (OpensF.cons rfl (by kernel_rfl) (Opens.int Try.underlying3) (OpensF.cons rfl (by kernel_rfl) (Opens.int Try.underlying79) (OpensF.cons rfl (by kernel_rfl) (Opens.arr Try.underlying80 (by kernel_rfl) (by kernel_rfl) (Opens.int Try.underlying79)) OpensF.nil)))))) Try.underlying88 (by kernel_rfl) (fun w cs y hl h => by
    match cs, hl with
    | [k0, k1, k2, k3, k4, k5, k6], _ =>
      obtain ⟨⟨r0, _⟩, ⟨r1, _⟩, ⟨r2, _⟩, ⟨r3, _⟩, ⟨_, hL, r4⟩, _⟩ := h
      simp at r0 r1 r2 r3
      have q0 := (r4 0 (by rw [hL]; omega)).1
      have q1 := (r4 1 (by rw [hL]; omega)).1
      have q2 := (r4 2 (by rw [hL]; omega)).1
      simp at q0 q1 q2
      exact ⟨⟨_, _, _, _, _, _, _⟩, by rw [r0, r1, r2, r3, q0, q1, q2]; rfl⟩)
def a19z : A19 := ⟨0, 0, 0, 0, 0, 0, 0⟩
structure A19At (w : World) (b off i : Nat) (y : A19) : Prop where
  c0 : w.cell? ⟨b, off + i * 7, none⟩ = some (.int .i64 y.d)
  c1 : w.cell? ⟨b, off + i * 7 + 1, none⟩ = some (.int .i64 y.x)
  c2 : w.cell? ⟨b, off + i * 7 + 2, none⟩ = some (.int .i64 y.p)
  c3 : w.cell? ⟨b, off + i * 7 + 3, none⟩ = some (.int .u32 y.own)
  c4 : w.cell? ⟨b, off + i * 7 + 4, none⟩ = some (.int .u32 y.s0)
  c5 : w.cell? ⟨b, off + i * 7 + 5, none⟩ = some (.int .u32 y.s1)
  c6 : w.cell? ⟨b, off + i * 7 + 6, none⟩ = some (.int .u32 y.s2)
theorem A19At.more {w w' : World} {b off i : Nat} {y : A19} (h : A19At w b off i y) (m : More w w') (hb : b < w.heap.size) : A19At w' b off i y := by
  obtain ⟨h0, h1, h2, h3, h4, h5, h6⟩ := h
  exact ⟨by rw [m.cells b _ hb]; exact h0, by rw [m.cells b _ hb]; exact h1, by rw [m.cells b _ hb]; exact h2, by rw [m.cells b _ hb]; exact h3, by rw [m.cells b _ hb]; exact h4, by rw [m.cells b _ hb]; exact h5, by rw [m.cells b _ hb]; exact h6⟩
theorem acts19 {w : World} {v : Value} {l : List A19} (h : SlP 7 RAct19 w v l) : ∃ oa cap, v = .slice oa l.length cap ∧ (l.length : Int) ≤ 9223372036854775807 ∧ ∀ i, i < l.length → ∃ b off, oa = some ⟨b, off, none⟩ ∧ b < w.heap.size ∧ A19At w b off i (l.getD i a19z) := by
  obtain ⟨oa, cap, h1, h2, h3, _⟩ := h
  refine ⟨oa, cap, h1, h2, fun i hi => ?_⟩
  obtain ⟨b, off, cs, e, hb, hl, hc, hr⟩ := h3 i hi
  unfold RAct19 at hr
  subst hr
  have eg : l.getD i a19z = l[i] := by simp [hi]
  rw [eg]
  exact ⟨b, off, e, hb, hc 0 (by simp), hc 1 (by simp), hc 2 (by simp), hc 3 (by simp), hc 4 (by simp), hc 5 (by simp), hc 6 (by simp)⟩

section
variable {K V : Type} [DecidableEq K]
/-- The entries whose keys are let. -/
def fq (q : K → Bool) (m : List (K × V)) : List (K × V) := m.filter fun p => q p.1
theorem mget_fq {q : K → Bool} {k : K} (hk : q k = true) : ∀ (m : List (K × V)), mget (fq q m) k = mget m k
  | [] => rfl
  | (a, b) :: l => by
    have ih := mget_fq hk l
    unfold fq at ih ⊢
    by_cases h : q a = true
    · simp [h, mget, ih]
    · have : ¬ k = a := fun e => h (by rw [← e]; exact hk)
      simp [h, mget, this, ih]
theorem fq_put_yes {q : K → Bool} {k : K} (hk : q k = true) (v : V) : ∀ (m : List (K × V)), fq q (mput m k v) = mput (fq q m) k v
  | [] => by simp [fq, mput, hk]
  | (a, b) :: l => by
    have ih := fq_put_yes hk v l
    unfold fq at ih ⊢
    by_cases e : k = a
    · subst e; simp [mput, hk]
    · by_cases h : q a = true
      · simp [mput, e, h, ih]
      · simp [mput, e, h, ih]
theorem fq_put_no {q : K → Bool} {k : K} (hk : q k = false) (v : V) : ∀ (m : List (K × V)), fq q (mput m k v) = fq q m
  | [] => by simp [fq, mput, hk]
  | (a, b) :: l => by
    have ih := fq_put_no hk v l
    unfold fq at ih ⊢
    by_cases e : k = a
    · subst e; simp [mput, hk]
    · simp [mput, e, List.filter_cons, ih]
theorem fq_del_yes {q : K → Bool} {k : K} (hk : q k = true) : ∀ (m : List (K × V)), fq q (mdel m k) = mdel (fq q m) k
  | [] => rfl
  | (a, b) :: l => by
    have ih := fq_del_yes hk l
    unfold fq at ih ⊢
    by_cases e : k = a
    · subst e; simp [mdel, hk]
    · by_cases h : q a = true
      · simp [mdel, e, h, ih]
      · simp [mdel, e, h, ih]
theorem fq_del_no {q : K → Bool} {k : K} (hk : q k = false) : ∀ (m : List (K × V)), fq q (mdel m k) = fq q m
  | [] => rfl
  | (a, b) :: l => by
    have ih := fq_del_no hk l
    unfold fq at ih ⊢
    by_cases e : k = a
    · subst e; simp [mdel, hk]
    · simp [mdel, e, List.filter_cons, ih]
theorem mput_le (k : K) (v : V) : ∀ (m : List (K × V)), (mput m k v).length ≤ m.length + 1
  | [] => by simp [mput]
  | (a, b) :: l => by
    have := mput_le k v l
    unfold mput
    split <;> simp <;> omega
theorem mdel_le (k : K) : ∀ (m : List (K × V)), (mdel m k).length ≤ m.length
  | [] => by simp [mdel]
  | (a, b) :: l => by
    have := mdel_le k l
    unfold mdel
    split <;> simp <;> omega
end
def not_ (sub : Int) (k : Int) : Bool := decide (k ≠ sub)
/-- A table without one subscriber. -/
def fT (sub : Int) (t : TS) : TS := { t with u := fq (not_ sub) t.u }
theorem alone_same {sub : Int} {t : TS} {y : A19} (h : ¬ (1 ≤ y.d ∧ y.d ≤ 4 ∧ y.x = sub)) : doT (fT sub t) y = (fT sub (doT t y).1, (doT t y).2) := by
  unfold doT
  by_cases h0 : y.d = 0
  · rw [if_pos h0, if_pos h0]
    unfold pubT fT
    simp only
    split
    · split
      · rfl
      · split
        · rfl
        · split <;> rfl
    · rfl
  · rw [if_neg h0, if_neg h0]
    by_cases hx : y.x = sub
    · have g1 : ¬ y.d = 1 := by omega
      have g2 : ¬ y.d = 2 := by omega
      have g3 : ¬ y.d = 3 := by omega
      have g4 : ¬ y.d = 4 := by omega
      simp only [g1, g2, g3, g4, if_false]
    · have hk : not_ sub y.x = true := by unfold not_; simpa using hx
      split
      · unfold joinT fT
        simp only [mget_fq hk]
        split
        · split
          · rfl
          · rw [fq_put_yes hk]
        · rfl
      · split
        · unfold leaveT fT
          simp only [mget_fq hk]
          split
          · split
            · rw [fq_del_yes hk]
            · rfl
          · rfl
        · split
          · unfold subT fT
            simp only [mget_fq hk]
            split
            · split
              · split
                · rfl
                · rw [fq_put_yes hk]
              · rfl
            · rfl
          · split
            · unfold unsubT fT
              simp only [mget_fq hk]
              split
              · split
                · rw [fq_put_yes hk]
                · rfl
              · rfl
            · rfl
theorem alone_skip {sub : Int} {t : TS} {y : A19} (h : 1 ≤ y.d ∧ y.d ≤ 4 ∧ y.x = sub) : fT sub (doT t y).1 = fT sub t := by
  obtain ⟨h1, h2, h3⟩ := h
  have hk : not_ sub y.x = false := by unfold not_; simpa using h3
  unfold doT
  rw [if_neg (by omega)]
  split
  · unfold joinT fT
    split
    · split
      · rfl
      · simp only [fq_put_no hk]
    · rfl
  · split
    · unfold leaveT fT
      split
      · split
        · simp only [fq_del_no hk]
        · rfl
      · rfl
    · split
      · unfold subT fT
        split
        · split
          · split
            · rfl
            · simp only [fq_put_no hk]
          · rfl
        · rfl
      · split
        · unfold unsubT fT
          split
          · split
            · simp only [fq_put_no hk]
            · rfl
          · rfl
        · rfl
theorem doT_len (t : TS) (y : A19) : (doT t y).1.u.length ≤ t.u.length + 1 := by
  unfold doT pubT joinT leaveT subT unsubT
  split
  · split
    · split
      · simp
      · split
        · simp
        · split <;> simp
    · simp
  · split
    · split
      · split
        · simp
        · exact mput_le _ _ _
      · simp
    · split
      · split
        · split
          · exact Nat.le_succ_of_le (mdel_le _ _)
          · simp
        · simp
      · split
        · split
          · split
            · split
              · simp
              · exact mput_le _ _ _
            · simp
          · simp
        · split
          · split
            · split
              · exact mput_le _ _ _
              · simp
            · simp
          · simp
theorem srt_filter (p : Int → Bool) (l : List Int) : srt (l.filter p) = (srt l).filter p := by
  have h1 : (srt l).Perm l := List.mergeSort_perm _ _
  rw [srt_perm (h1.symm.filter p)]
  exact srt_of_sorted ((srt_pair l).filter p)
theorem which_fq (sub : Int) (pr : Sb → Bool) (u : List (Int × Sb)) : whichT pr (fq (not_ sub) u) = (whichT pr u).filter (not_ sub) := by
  unfold whichT
  rw [← srt_filter]
  congr 1
  unfold selT fq
  induction u with
  | nil => rfl
  | cons p l ih =>
    by_cases h1 : not_ sub p.1 = true <;> by_cases h2 : pr p.2 = true <;> simp [h1, h2, ih]
end Go.Proofs.Ytmhkjamibcdcdaa
