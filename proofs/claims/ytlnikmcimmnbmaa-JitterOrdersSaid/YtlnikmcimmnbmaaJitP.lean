/- The law JitterWaits. -/
import Derived.Test.YtlnikmcimmnbmaaJitO
import Derived.Test.YtlnikmcimmnbmaaRead
namespace Go.Proofs.Ytlnikmcimmnbmaa
set_option linter.unusedSimpArgs false
set_option linter.unusedVariables false
open Go.RowKit Go.Lib
set_option maxRecDepth 100000

abbrev Act12 := Int × Int × Int × Int × Unit
def RAct12 : Reader Act12 := RCons 1 (RInt .i64) (RCons 1 (RInt .i64) (RCons 1 (RInt .i64) (RCons 1 (RInt .i64) RNil)))
theorem keepsAct12 : Keeps RAct12 := Keeps.cons (Keeps.int _) (Keeps.cons (Keeps.int _) (Keeps.cons (Keeps.int _) (Keeps.cons (Keeps.int _) Keeps.nil)))
theorem opensAct12 : Opens Try.prog 104 RAct12 :=
  Opens.struct Try.underlying104 (by kernel_rfl) (OpensF.cons rfl (by kernel_rfl) (Opens.int Try.underlying3) (OpensF.cons rfl (by kernel_rfl) (Opens.int Try.underlying2) (OpensF.cons rfl (by kernel_rfl) (Opens.int Try.underlying2) (OpensF.cons rfl (by kernel_rfl) (Opens.int Try.underlying3) OpensF.nil))))
/-- An act that came in, and where it lies. -/
theorem act12 {w : World} {v : Value} {l : List Act12} (h : SlP 4 RAct12 w v l) : ∃ oa cap, v = .slice oa l.length cap ∧ (l.length : Int) ≤ 9223372036854775807 ∧ ∀ i (hi : i < l.length), ∃ b off, oa = some ⟨b, off, none⟩ ∧ b < w.heap.size ∧
    w.cell? ⟨b, off + i * 4, none⟩ = some (.int .i64 (l.getD i (0, 0, 0, 0, ())).1) ∧ w.cell? ⟨b, off + i * 4 + 1, none⟩ = some (.int .i64 (l.getD i (0, 0, 0, 0, ())).2.1) ∧ w.cell? ⟨b, off + i * 4 + 2, none⟩ = some (.int .i64 (l.getD i (0, 0, 0, 0, ())).2.2.1) ∧ w.cell? ⟨b, off + i * 4 + 3, none⟩ = some (.int .i64 (l.getD i (0, 0, 0, 0, ())).2.2.2.1) := by
  obtain ⟨oa, cap, h1, h2, h3, _⟩ := h
  refine ⟨oa, cap, h1, h2, fun i hi => ?_⟩
  obtain ⟨b, off, cs, e, hb, hl, hc, hr⟩ := h3 i hi
  have e0 := hc 0 (by omega)
  have e1 := hc 1 (by omega)
  have e2 := hc 2 (by omega)
  have e3 := hc 3 (by omega)
  match cs, hl with
  | [c0, c1, c2, c3], _ =>
    obtain ⟨⟨r0, _⟩, ⟨r1, _⟩, ⟨r2, _⟩, ⟨r3, _⟩, _⟩ := hr
    simp at r0 r1 r2 r3 e0 e1 e2 e3
    refine ⟨b, off, e, hb, ?_, ?_, ?_, ?_⟩
    · rw [e0, r0]; simp [hi]
    · rw [e1, r1]; simp [hi]
    · rw [e2, r2]; simp [hi]
    · rw [e3, r3]; simp [hi]
/-- A buffer in a law. -/
structure Run12 (w0 w : World) (R : Nat) (v : Value) (b : Jb) : Prop where
  buf : BufAt w R v b
  ok : JOK b
  more : More w0 w
  new : w0.heap.size ≤ R
  own : ∀ k, v.ownBlock = some k → w0.heap.size ≤ k
theorem Run12.on {w0 w w' : World} {R : Nat} {v : Value} {b : Jb} (h : Run12 w0 w R v b) (m : More w w') : Run12 w0 w' R v b := ⟨h.buf.on m, h.ok, h.more.trans m, h.new, h.own⟩
theorem Run12.step {w0 w w' : World} {R : Nat} {v v' : Value} {b b' : Jb} (h : Run12 w0 w R v b) (ok : JOK b') (st : BStep w w' R v v' b') : Run12 w0 w' R v' b' :=
  ⟨st.buf, ok, Away.to_more h.more st.away (fun k hk => hk.elim (fun e => by have := h.new; omega) (h.own k)), h.new, fun k hk => by
    rcases st.own with e | ⟨g, e, hg⟩
    · exact h.own k (by rw [← e]; exact hk)
    · rw [e] at hk; injection hk with hk; have := h.more.size; omega⟩
theorem Run12.start {w0 w : World} {R : Nat} {room wait : Int} (hb : BufAt w R (.slice none 0 0) (newJ room wait)) (h : newOK room wait) (m : More w0 w) (hR : w0.heap.size ≤ R) : Run12 w0 w R (.slice none 0 0) (newJ room wait) :=
  ⟨hb, newJ_ok h, m, hR, fun k hk => by cases hk⟩
/-- All that is held has been there by then. -/
def By12 (b : Jb) (t : Int) : Prop := ∀ h ∈ b.holds, h.2.1 ≤ t
theorem push_by {b : Jb} {n now x t : Int} (h : By12 b t) (hn : now ≤ t) : By12 (pushJ b n now x).1 t := by
  rcases push_cases b n now x with ⟨e, _⟩ | ⟨e, _⟩
  · rw [e]; exact h
  · rw [e]
    intro k hk
    rcases (insJ_mem _ _ k).1 hk with rfl | hk
    · exact hn
    · exact h k hk
theorem pop_by {b : Jb} {now t : Int} (h : By12 b t) : By12 (popJ b now).1 t := by
  unfold popJ
  cases hb : b.holds with
  | nil => exact h
  | cons k T =>
    simp only
    split
    · intro c hc
      unfold leastJ at hc
      rw [hb] at hc
      exact h c (by rw [hb]; exact List.mem_cons_of_mem _ hc)
    · exact h
theorem push_same (b : Jb) (n now x : Int) : (pushJ b n now x).1.room = b.room ∧ (pushJ b n now x).1.wait = b.wait := by
  rcases push_cases b n now x with ⟨e, _⟩ | ⟨e, _⟩ <;> rw [e] <;> exact ⟨rfl, rfl⟩
theorem least_same (b : Jb) : (leastJ b).room = b.room ∧ (leastJ b).wait = b.wait := by
  unfold leastJ; split <;> exact ⟨rfl, rfl⟩
theorem pop_same (b : Jb) (now : Int) : (popJ b now).1.room = b.room ∧ (popJ b now).1.wait = b.wait := by
  unfold popJ
  split
  · exact ⟨rfl, rfl⟩
  · split
    · exact least_same b
    · exact ⟨rfl, rfl⟩
/-- What waited comes out. -/
theorem pop_waited {b : Jb} {h : Hd} {T : List Hd} {t : Int} (hb : b.holds = h :: T) (hy : By12 b t) : popJ b (t + b.wait) = (leastJ b, h.1, h.2.2, true) := by
  have hr : readyJ b (t + b.wait) = true := by
    unfold readyJ
    rw [hb]
    have : waitedJ b (t + b.wait) h = true := decide_eq_true (by have := hy h (by rw [hb]; exact List.mem_cons_self); omega)
    simp [this]
  unfold popJ
  rw [hb]
  simp only [hr]
  rfl
theorem pop_none {b : Jb} (hb : b.holds = []) (t : Int) : popJ b t = (b, 0, 0, false) := by unfold popJ; rw [hb]
theorem ready_none {b : Jb} (hb : b.holds = []) (t : Int) : readyJ b t = false := by unfold readyJ; rw [hb]
end Go.Proofs.Ytlnikmcimmnbmaa
