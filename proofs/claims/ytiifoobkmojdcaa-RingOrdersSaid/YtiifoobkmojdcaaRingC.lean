/- Contracts of package ring, of int: Drain. -/
import Derived.Test.YtiifoobkmojdcaaRingB
namespace Go.Proofs.Ytiifoobkmojdcaa
open Go.RowKit
set_option maxRecDepth 100000

theorem owns_away {S : Nat → Prop} {w w' : World} {base e size n : Nat} {v : Value} {xs : List Value} (h : w.ownsRow base e size v n xs) (m : Away S w w') (hs : ∀ k, S k → k < base) : w'.ownsRow base e size v n xs := by
  obtain ⟨h1, h2⟩ := h
  refine ⟨h1, ?_⟩
  rcases h2 with h | ⟨g, cap, cur, e1, hb, hg, rest⟩
  · exact Or.inl h
  · exact Or.inr ⟨g, cap, cur, e1, hb, m.blk hg (fun x => by have := hs g x; omega), rest⟩
theorem Away.grown {S : Nat → Prop} {w a b : World} {v : Value} {n e size : Nat} {xs : List Value} (m : Away S w a) (h : a.grownBy b v.ownBlock) (ho : a.ownsRow w.heap.size e size v n xs) : Away S w b := by
  refine ⟨h.os.trans m.os, h.tape.trans m.tape, h.output.trans m.output, Nat.le_trans m.size h.size, fun k hk hs => ?_⟩
  have : some k ≠ v.ownBlock := by
    rcases ho.2 with ⟨rfl, _⟩ | ⟨g, cap, cur, rfl, hb, _⟩
    · exact fun x => by cases x
    · intro x
      have : k = g := by injection x
      omega
  rw [h.block k (Nat.lt_of_lt_of_le hk m.size) this, m.block k hk hs]
theorem RingAt.grown {w w' : World} {R A room first base n e size : Nat} {s : RS} {cells : List Int} {v : Value} {xs : List Value} (h : RingAt w R A room first s cells) (g : w.grownBy w' v.ownBlock) (ho : w.ownsRow base e size v n xs) (hR : R < base) (hA : A < base) : RingAt w' R A room first s cells := by
  have : ∀ k, k < base → k < w.heap.size → w'.heap[k]? = w.heap[k]? := by
    intro k hk hk2
    refine g.block k hk2 ?_
    rcases ho.2 with ⟨rfl, _⟩ | ⟨g9, cap, cur, rfl, hb, _⟩
    · exact fun x => by cases x
    · intro x
      have : k = g9 := by injection x
      omega
  exact { h with ring := by rw [this R hR (blk_lt h.ring)]; exact h.ring, row := by rw [this A hA (blk_lt h.row)]; exact h.row }
theorem RingAt.drained {w : World} {R A room first : Nat} {s : RS} {cells : List Int} (h : RingAt w R A room first s cells) (d : Int) : RingAt (w.setCell ⟨R, 7, none⟩ (.int .i64 d)) R A room first { s with cdrain := d } cells :=
  { h with ring := blk_eq (blk_set h.ring 7 _) rfl, row := blk_other h.row _ _ (Ne.symm h.ne) }

/-- What the first j of them left. -/
def RS.left (s : RS) (j : Nat) : RS := { s with q := s.q.drop j }
set_option maxHeartbeats 1000000 in
theorem RDrain_any {w : World} {R A room first : Nat} {s : RS} {cells : List Int} (h : RingAt w R A room first s cells) (hs : s.small) :
    Calls Try.prog 44 #[.pointer (some ⟨R, 0, none⟩)] w fun e w' => ∃ v, e = .returned v ∧ SlI .i64 w' v s.q ∧ (∃ f cs, RingAt w' R A room f { s with q := [], cdrain := s.cdrain + s.q.length } cs) ∧ Away (Two2 R A) w w' := by
  obtain ⟨i0, hi, hz0, hz1, hz2⟩ := info_parts (P := Try.prog) (e := 3) (z := .int .i64 0) (size := 1) (bytes := 8) (by kernel_rfl)
  have r2 := h.c2
  have hl8 : s.q.length ≤ 8 := by have := h.fits; have := h.pos.2; omega
  have hl8i : (s.q.length : Int) ≤ 8 := by omega
  have hR : R < w.heap.size := blk_lt h.ring
  have hA : A < w.heap.size := blk_lt h.row
  have hcd : s.cdrain ≤ 1000000 := hs.2.2.2.2
  have hcd0 : 0 ≤ s.cdrain := hs.2.2.2.1
  have HR := Lib.hid h
  clear h
  go_enter Try.func44, Try.ntmps44
  go_wp2
  go_loopw [3, 8] (fun v i wr => ∃ j : Nat, j ≤ s.q.length ∧ i = .int .i64 j ∧ wr.ownsRow w.heap.size 3 1 v (s.q.take j).length ((s.q.take j).map (Value.int .i64)) ∧ (∃ f cs, RingAt wr R A room f (s.left j) cs) ∧ Away (Two2 R A) w wr) (fun _ i _ => s.q.length - (intOf i).toNat)
  case atStart => exact ⟨0, by omega, rfl, ⟨by simp, Or.inl ⟨rfl, by simp⟩⟩, ⟨first, cells, HR.out⟩, Away.refl _ _⟩
  case round =>
    obtain ⟨j, hj, rfl, hown, ⟨f, cs, hr⟩, haw⟩ := hrel
    by_cases hlt : j < s.q.length
    · have hne : (s.left j).q ≠ [] := by intro e; have := congrArg List.length e; simp [RS.left] at this; omega
      have hcat : s.q.take j ++ [(s.left j).q.headD 0] = s.q.take (j + 1) := by
        rw [List.take_succ_eq_append_getElem hlt]
        simp [RS.left, List.headD_eq_head?_getD, hlt]
      have c1 : ((s.q.take j).length + [(s.left j).q.headD 0].length) * 8 ≤ 140737488355328 := by simp; omega
      go_wp2_with first | (go_at_call 66; refine (take_any _ R A room f (s.left j) cs hr hne).mono ?_; rintro e w1 ⟨rfl, h1, ha1⟩) | (at_builtin; (refine wpList_append_sl _ rfl (.tmp 10) (.tmp 13) 65 rfl w.heap.size 3 i0 (.int .i64 0) 8 Try.underlying65 hi hz0 hz1 hz2 rfl _ .i64 (s.q.take j) rfl ?o1 _ [(s.left j).q.headD 0] rfl ?o2 c1 (by decide) ?o3 ?_; (case o1 => exact owns_away (S := Two2 R A) hown (ha1.more (More.alloc _ _)) (by rintro k (rfl | rfl) <;> assumption)); (case o2 => exact SlI.lit .i64 w1 [(s.left j).q.headD 0] 3 _ 1 _ (by simp) rfl rfl (by simp)); (case o3 => exact Nat.le_trans (haw.trans ha1).size (More.alloc _ _).size); intro v' w2 hown2 hgrow))
      have ho1 := owns_away (S := Two2 R A) hown (ha1.more (More.alloc w1 (.cells #[.int .i64 ((s.left j).q.head?.getD 0)] 3))) (by rintro k (rfl | rfl) <;> assumption)
      rw [hcat] at hown2
      have hr2 := (h1.more (More.alloc w1 (.cells #[.int .i64 ((s.left j).q.head?.getD 0)] 3))).grown hgrow ho1 hR hA
      have ha2 := ((haw.trans ha1).more (More.alloc w1 (.cells #[.int .i64 ((s.left j).q.head?.getD 0)] 3))).grown hgrow ho1
      have hst : ({ s.left j with q := (s.left j).q.tail } : RS) = s.left (j + 1) := by simp [RS.left]
      rw [hst] at hr2
      go_roundw
      case rel => exact ⟨j + 1, by omega, by go_num, hown2, ⟨_, _, hr2⟩, ha2⟩
      case measure => simp [intOf]; omega
    · obtain rfl : j = s.q.length := by omega
      have hsl := SlI.of_owns hown (by rw [List.take_length]; omega)
      have hr7 := hr.c7
      have fr7 := hr.free 7
      have e7 : (s.left s.q.length).cdrain = s.cdrain := rfl
      rw [e7] at hr7
      have hdr := hr.drained (s.cdrain + s.q.length)
      have hsl2 := SlI.of_owns (owns_away (S := Two2 R A) hown ((Away.refl _ wr).set (p := ⟨R, 7, none⟩) (Or.inl rfl) (.int .i64 (s.cdrain + s.q.length))) (by rintro k (rfl | rfl) <;> assumption)) (by rw [List.take_length]; omega)
      rw [List.take_length] at hsl hsl2
      have HSL := Lib.hid hsl2
      have hdr2 : RingAt (wr.setCell ⟨R, 7, none⟩ (.int .i64 (s.cdrain + s.q.length))) R A room f { s with q := [], cdrain := s.cdrain + s.q.length } cs := by simpa [RS.left] using hdr
      clear hsl2 hdr
      obtain ⟨oa, cap, rfl, hsl⟩ := hsl
      clear hown hr hsl
      go_wp2
      go_ret
      exact ⟨_, rfl, HSL.out, ⟨f, cs, hdr2⟩, haw.set (Or.inl rfl) _⟩
end Go.Proofs.Ytiifoobkmojdcaa
