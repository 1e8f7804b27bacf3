/- The things of layer 3's laws: how they read; large. -/
import Derived.Test.YtaobhpaabnljpaaWireD
namespace Go.Proofs.Ytaobhpaabnljpaa
open Go.RowKit
set_option maxRecDepth 100000

theorem tkB_nil (n : Int) : tkB [] n = [] := by unfold tkB; split <;> simp
theorem tkL_nil (n : Int) : tkL [] n = [] := by unfold tkL; simp
theorem tkE_shut {l : List Int} {n e : Int} (he : ¬ e = 0) : tkE l n e = e := by unfold tkE; rw [if_neg (fun x => he x.2)]
theorem RdEnd_shut {w : World} {R : Nat} {l : List Int} {e : Int} (h : ReaderAt w R l e) (he : ¬ e = 0) :
    Calls Try.prog 34 #[.pointer (some ⟨R, 0, none⟩)] w fun e' w' => e' = .returned (.int .i64 e) ∧ w' = w := by
  refine (RdEnd_any h).mono ?_
  rintro e' w' ⟨rfl, rfl⟩
  exact ⟨by rw [if_pos he], rfl⟩
/-- A thing: kind, number, bytes, what goes wrong. -/
abbrev Thing := Int × Int × List Int × Int × Unit
def RThing : Reader Thing := RCons 1 (RInt .i64) (RCons 1 (RInt .u32) (RCons 1 (RSl 1 (RInt .u8)) (RCons 1 (RInt .i64) RNil)))
theorem keepsThing : Keeps RThing := Keeps.cons (Keeps.int _) (Keeps.cons (Keeps.int _) (Keeps.cons (Keeps.sl (Keeps.int _)) (Keeps.cons (Keeps.int _) Keeps.nil)))
theorem opensThing : Opens Try.prog 50 RThing :=
  Opens.struct Try.underlying50 (by kernel_rfl) (OpensF.cons rfl (by kernel_rfl) (Opens.int Try.underlying3) (OpensF.cons rfl (by kernel_rfl) (Opens.int Try.underlying48) (OpensF.cons rfl (by kernel_rfl) (Opens.sl Try.underlying42 (by kernel_rfl) (by decide) (Opens.int Try.underlying5)) (OpensF.cons rfl (by kernel_rfl) (Opens.int Try.underlying25) OpensF.nil))))
def thing0 : Thing := (0, 0, [], 0, ())
/-- What a thing in a row reads as. -/
structure ThingAt (w : World) (b off i : Nat) (t : Thing) (vb : Value) : Prop where
  c0 : w.cell? ⟨b, off + i * 4, none⟩ = some (.int .i64 t.1)
  c1 : w.cell? ⟨b, off + i * 4 + 1, none⟩ = some (.int .u32 t.2.1)
  c2 : w.cell? ⟨b, off + i * 4 + 2, none⟩ = some vb
  c3 : w.cell? ⟨b, off + i * 4 + 3, none⟩ = some (.int .i64 t.2.2.2.1)
  sl : SlI .u8 w vb t.2.2.1
  byt : Byt t.2.2.1
  n32 : 0 ≤ t.2.1 ∧ t.2.1 ≤ 4294967295
theorem ThingAt.more {w w' : World} {b off i : Nat} {t : Thing} {vb : Value} (h : ThingAt w b off i t vb) (m : More w w') (hb : b < w.heap.size) : ThingAt w' b off i t vb := by
  obtain ⟨h0, h1, h2, h3, h4, h5, h6⟩ := h
  exact ⟨by rw [m.cells b _ hb]; exact h0, by rw [m.cells b _ hb]; exact h1, by rw [m.cells b _ hb]; exact h2, by rw [m.cells b _ hb]; exact h3, h4.keep m, h5, h6⟩
theorem things {w : World} {v : Value} {l : List Thing} (h : SlP 4 RThing w v l) : ∃ oa cap, v = .slice oa l.length cap ∧ (l.length : Int) ≤ 9223372036854775807 ∧ ∀ i, i < l.length → ∃ b off vb, oa = some ⟨b, off, none⟩ ∧ b < w.heap.size ∧ ThingAt w b off i (l.getD i thing0) vb := by
  obtain ⟨oa, cap, h1, h2, h3, _⟩ := h
  refine ⟨oa, cap, h1, h2, fun i hi => ?_⟩
  obtain ⟨b, off, cs, e, hb, hl, hc, hr⟩ := h3 i hi
  have e0 := hc 0 (by omega)
  have e1 := hc 1 (by omega)
  have e2 := hc 2 (by omega)
  have e3 := hc 3 (by omega)
  have eg : l.getD i thing0 = l[i] := by simp [hi]
  rw [eg]
  match cs, hl with
  | [k0, k1, k2, k3], _ =>
    obtain ⟨⟨r0, _⟩, ⟨r1, b1⟩, ⟨vb, r2, s2⟩, ⟨r3, _⟩, _⟩ := hr
    simp at r0 r1 r2 r3 e0 e1 e2 e3
    subst r0 r1 r2 r3
    exact ⟨b, off, k2, e, hb, e0, e1, e2, e3, s2.ints.1, Byt.of_wf s2.ints.2, bounds_u32 b1⟩
/-- Are things too many, or too long? -/
def lrg (l : List Thing) : Bool := decide (60 < l.length) || l.any fun t => decide (40 < t.2.2.1.length)
theorem lrg_no {l : List Thing} (h : lrg l = false) : l.length ≤ 60 ∧ ∀ i, i < l.length → (l.getD i thing0).2.2.1.length ≤ 40 := by
  unfold lrg at h
  rw [Bool.or_eq_false_iff] at h
  refine ⟨by simpa using h.1, fun i hi => ?_⟩
  have := List.any_eq_false.1 h.2 (l.getD i thing0) (by simp [hi])
  simpa using this
theorem lrg_no_of {l : List Thing} (h : l.length ≤ 60) (k : ∀ i, i < l.length → (l.getD i thing0).2.2.1.length ≤ 40) : lrg l = false := by
  unfold lrg
  rw [Bool.or_eq_false_iff]
  refine ⟨by simpa using h, List.any_eq_false.2 fun t ht => ?_⟩
  obtain ⟨i, hi, rfl⟩ := List.mem_iff_getElem.1 ht
  have := k i hi
  simp [hi] at this
  simpa using this
theorem lrg_yes {l : List Thing} {i : Nat} (hi : i < l.length) (h : 40 < (l.getD i thing0).2.2.1.length) : lrg l = true := by
  unfold lrg
  rw [Bool.or_eq_true]
  exact Or.inr (List.any_eq_true.2 ⟨l.getD i thing0, by simp [hi], by simpa using h⟩)
theorem large03 (v : Value) (l : List Thing) (w : World) (sl : SlP 4 RThing w v l) :
    Calls Try.prog 25 #[v] w fun e w' => e = .returned (.bool (lrg l)) ∧ More w w' := by
  obtain ⟨oa, cap, rfl, hl63, hel⟩ := things sl
  clear sl
  by_cases hlen : (l.length : Int) ≤ 60
  · go_enter Try.func25, Try.ntmps25
    go_wp2
    go_loopw [10] (fun i wr => ∃ j : Nat, j ≤ l.length ∧ i = .int .i64 j ∧ (∀ i, i < j → (l.getD i thing0).2.2.1.length ≤ 40) ∧ More w wr) (fun i _ => l.length - (intOf i).toNat)
    case atStart => exact ⟨0, by omega, rfl, fun i hi => by omega, More.refl _⟩
    case round =>
      obtain ⟨j, hj, rfl, hall, hmr⟩ := hrel
      by_cases hlt : j < l.length
      · obtain ⟨b, off, vb, rfl, hb, ht⟩ := hel j hlt
        obtain ⟨c0, c1, c2, c3, ⟨ob, capb, rfl, _⟩, _, _⟩ := ht.more hmr hb
        have hjl : (j : Int) < (l.length : Int) := by omega
        have hbw : b < wr.heap.size := Nat.lt_of_lt_of_le hb hmr.size
        by_cases h40 : (l.getD j thing0).2.2.1.length ≤ 40
        · have HALL := Lib.hid hall
          clear hall hel ht
          have HJ := Lib.hid h40
          have h40i : ¬ (40 : Int) < ((l.getD j thing0).2.2.1.length : Int) := by omega
          generalize (l.getD j thing0).2.2.1.length = n at c2 h40i h40
          go_wp2
          go_roundw
          case rel => exact ⟨j + 1, by omega, by go_num, (fun i hi => by
              by_cases e : i < j
              · exact HALL.out i e
              · obtain rfl : i = j := by omega
                exact HJ.out), hmr.al _⟩
          case measure => simp [intOf]; omega
        · have hy := Lib.hid (lrg_yes hlt (by omega))
          have h40i : (40 : Int) < ((l.getD j thing0).2.2.1.length : Int) := by omega
          clear hall hel ht
          generalize (l.getD j thing0).2.2.1.length = n at c2 h40i h40
          go_wp2
          go_ret
          exact ⟨by rw [hy.out]; rfl, hmr.al _⟩
      · obtain rfl : j = l.length := by omega
        have hy := Lib.hid (lrg_no_of (by omega) hall)
        clear hall hel
        go_wp2
        go_ret
        exact ⟨by rw [hy.out]; rfl, hmr⟩
  · have hy : lrg l = true := by unfold lrg; rw [Bool.or_eq_true]; exact Or.inl (by simpa using by omega)
    have HY := Lib.hid hy
    clear hy hel
    go_enter Try.func25, Try.ntmps25
    go_wp2
    go_ret
    exact ⟨by rw [HY.out]; rfl, More.refl _⟩
end Go.Proofs.Ytaobhpaabnljpaa
