/- Merged from my texts ReportB. -/
import Derived.Test.YtlnikmcimmnbmaaMg12
/- Reports: equality; Right. -/
namespace Go.Proofs.Ytlnikmcimmnbmaa
set_option linter.unusedSimpArgs false
set_option linter.unusedVariables false
open Go.RowKit
set_option maxRecDepth 100000

/-- The slice lies in a block that is new. -/
def NewB (w : World) (v : Value) : Prop := ∀ g, v.ownBlock = some g → w.heap.size ≤ g
theorem NewB.nil (w : World) : NewB w (.slice none 0 0) := fun g h => by cases h
theorem inf_iff (i j : Inf) : i = j ↔ i.sec = j.sec ∧ i.frac = j.frac ∧ i.stamp = j.stamp ∧ i.pkts = j.pkts ∧ i.octs = j.octs := by
  obtain ⟨⟩ := i
  obtain ⟨⟩ := j
  simp
theorem blk_iff (i j : Blk) : i = j ↔ i.src = j.src ∧ i.part = j.part ∧ i.miss = j.miss ∧ i.high = j.high ∧ i.jit = j.jit ∧ i.last = j.last ∧ i.dly = j.dly := by
  obtain ⟨⟩ := i
  obtain ⟨⟩ := j
  simp
theorem inf_ne (i j : Inf) (w : World) :
    (binOp .neq 24 (.agg #[.int .u32 i.sec, .int .u32 i.frac, .int .u32 i.stamp, .int .u32 i.pkts, .int .u32 i.octs]) (.agg #[.int .u32 j.sec, .int .u32 j.frac, .int .u32 j.stamp, .int .u32 j.pkts, .int .u32 j.octs])).run Try.prog w = .ok (.bool (!decide (i = j))) w := by
  have h1 : Try.prog.stoodInHeld 24 = false := by kernel_rfl
  rw [run_neq_struct, run_equalIn_agg w 9999 24 _ _ (by kernel_rfl) h1]
  simp only [inf_iff]
  simp [go_sem]
  by_cases h1 : i.sec = j.sec <;> by_cases h2 : i.frac = j.frac <;> by_cases h3 : i.stamp = j.stamp <;> by_cases h4 : i.pkts = j.pkts <;> by_cases h5 : i.octs = j.octs <;> simp [h1, h2, h3, h4, h5]
theorem inf_ne' (i j : Inf) (w : World) :
    (binOp .neq 38 (.agg #[.int .u32 i.sec, .int .u32 i.frac, .int .u32 i.stamp, .int .u32 i.pkts, .int .u32 i.octs]) (.agg #[.int .u32 j.sec, .int .u32 j.frac, .int .u32 j.stamp, .int .u32 j.pkts, .int .u32 j.octs])).run Try.prog w = .ok (.bool (!decide (i = j))) w := by
  have h1 : Try.prog.stoodInHeld 38 = false := by kernel_rfl
  rw [run_neq_struct, run_equalIn_agg w 9999 38 _ _ (by kernel_rfl) h1]
  simp only [inf_iff]
  simp [go_sem]
  by_cases h1 : i.sec = j.sec <;> by_cases h2 : i.frac = j.frac <;> by_cases h3 : i.stamp = j.stamp <;> by_cases h4 : i.pkts = j.pkts <;> by_cases h5 : i.octs = j.octs <;> simp [h1, h2, h3, h4, h5]
theorem blk_ne' (i j : Blk) (w : World) :
    (binOp .neq 143 (.agg #[.int .u32 i.src, .int .u8 i.part, .int .i32 i.miss, .int .u32 i.high, .int .u32 i.jit, .int .u32 i.last, .int .u32 i.dly]) (.agg #[.int .u32 j.src, .int .u8 j.part, .int .i32 j.miss, .int .u32 j.high, .int .u32 j.jit, .int .u32 j.last, .int .u32 j.dly])).run Try.prog w = .ok (.bool (!decide (i = j))) w := by
  have h1 : Try.prog.stoodInHeld 143 = false := by kernel_rfl
  rw [run_neq_struct, run_equalIn_agg w 9999 143 _ _ (by kernel_rfl) h1]
  simp only [blk_iff]
  simp [go_sem]
  by_cases h1 : i.src = j.src <;> by_cases h2 : i.part = j.part <;> by_cases h3 : i.miss = j.miss <;> by_cases h4 : i.high = j.high <;> by_cases h5 : i.jit = j.jit <;> by_cases h6 : i.last = j.last <;> by_cases h7 : i.dly = j.dly <;> simp [h1, h2, h3, h4, h5, h6, h7]
theorem inf_guard' : Try.prog.eqGuardType Try.prog.depth 38 = false := by kernel_rfl
theorem blk_guard' : Try.prog.eqGuardType Try.prog.depth 143 = false := by kernel_rfl
theorem inf_guard : Try.prog.eqGuardType Try.prog.depth 24 = false := by kernel_rfl
theorem missOK_iff (b : Blk) : missOK b = true ↔ -8388608 ≤ b.miss ∧ b.miss ≤ 8388607 := by unfold missOK; simp
theorem missOK_no {b : Blk} (h : ¬ (-8388608 ≤ b.miss ∧ b.miss ≤ 8388607)) : missOK b = false := by unfold missOK; simp; omega
theorem rightR_miss {r : Rep} {j : Nat} (hj : j < r.bl.length) (h : missOK (r.bl.getD j blk0) = false) : rightR r = false := by
  unfold rightR
  have : r.bl.all missOK = false := by
    rw [List.all_eq_false]
    exact ⟨r.bl.getD j blk0, by simp [hj], by rw [h]; simp⟩
  rw [this]
  simp
theorem rightR_end {r : Rep} (hi : r.snd = true ∨ r.inf = inf0) (h : ∀ k, k < r.bl.length → missOK (r.bl.getD k blk0) = true) : rightR r = decide (r.bl.length ≤ if r.snd then 7 else 8) := by
  unfold rightR
  have h1 : r.bl.all missOK = true := by
    rw [List.all_eq_true]
    intro b hb
    obtain ⟨i, hi, rfl⟩ := List.mem_iff_getElem.1 hb
    have := h i hi
    simpa [hi] using this
  rw [h1]
  rcases hi with hi | hi
  · simp [hi]
  · simp [hi]
set_option maxHeartbeats 1000000 in
theorem Right08_any {w : World} {vb : Value} (r : Rep) (sl : SlP 7 RBlk w vb r.bl) :
    Calls Try.prog 21 #[.agg #[.bool r.snd, .int .u32 r.src, .int .u32 r.inf.sec, .int .u32 r.inf.frac, .int .u32 r.inf.stamp, .int .u32 r.inf.pkts, .int .u32 r.inf.octs, vb]] w fun e w' => e = .returned (.bool (rightR r)) ∧ More w w' := by
  obtain ⟨s, src, i, bl⟩ := r
  simp only at *
  obtain ⟨oa, cap, rfl, hl63, hel⟩ := blks sl
  clear sl
  have EG := inf_guard
  cases s with
  | true =>
    have M0 := More.alloc w (.cells #[.bool true, .int .u32 src, .int .u32 i.sec, .int .u32 i.frac, .int .u32 i.stamp, .int .u32 i.pkts, .int .u32 i.octs, .slice oa bl.length cap] 27)
    go_enter Try.func21, Try.ntmps21
    go_wp2
    go_loopw [15] (fun ix wr => ∃ j : Nat, j ≤ bl.length ∧ ix = .int .i64 j ∧ (∀ k, k < j → missOK (bl.getD k blk0) = true) ∧ More (w.alloc (.cells #[.bool true, .int .u32 src, .int .u32 i.sec, .int .u32 i.frac, .int .u32 i.stamp, .int .u32 i.pkts, .int .u32 i.octs, .slice oa bl.length cap] 27)) wr) (fun ix _ => bl.length - (intOf ix).toNat)
    case atStart => exact ⟨0, by omega, rfl, fun k hk => by omega, More.refl _⟩
    case round =>
      obtain ⟨j, hj, rfl, hall, hm1⟩ := hrel
      have hmr := M0.trans hm1
      by_cases hlt : j < bl.length
      · obtain ⟨b, off, rfl, hb, ht⟩ := hel j hlt
        obtain ⟨c0, c1, c2, c3, c4, c5, c6, hok⟩ := ht.more hmr hb
        have hjl : (j : Int) < (bl.length : Int) := by omega
        have hbw : b < wr.heap.size := Nat.lt_of_lt_of_le hb hmr.size
        have HALL := Lib.hid hall
        have HNO : Hid (missOK (bl.getD j blk0) = false → rightR ⟨true, src, i, bl⟩ = false) := Lib.hid (fun h => rightR_miss (r := ⟨true, src, i, bl⟩) hlt h)
        have hways : (bl.getD j blk0).miss < -8388608 ∨ (¬ (bl.getD j blk0).miss < -8388608 ∧ 8388607 < (bl.getD j blk0).miss) ∨ (¬ (bl.getD j blk0).miss < -8388608 ∧ ¬ 8388607 < (bl.getD j blk0).miss) := by omega
        have HM : Hid (∀ x, (bl.getD j blk0).miss = x → ¬ x < -8388608 → ¬ 8388607 < x → ∀ k, k < j + 1 → missOK (bl.getD k blk0) = true) := Lib.hid (fun x e h1 h2 k hk => by
          subst e
          by_cases e : k < j
          · exact HALL.out k e
          · obtain rfl : k = j := by omega
            exact (missOK_iff _).2 ⟨by omega, by omega⟩)
        have HB : Hid (∀ x, (bl.getD j blk0).miss = x → (x < -8388608 ∨ 8388607 < x) → rightR ⟨true, src, i, bl⟩ = false) := Lib.hid (fun x e h => by
          subst e
          exact HNO.out (missOK_no (b := bl.getD j blk0) (by omega)))
        clear hel ht hall hok HALL HNO
        generalize hx : (bl.getD j blk0).miss = x at *
        have HX := Lib.hid hx
        clear hx
        rcases hways with h1 | ⟨h1, h2⟩ | ⟨h1, h2⟩
        · have hr := HB.out x rfl (Or.inl h1)
          have HR := Lib.hid hr
          clear hr
          go_wp2
          go_ret
          exact ⟨by rw [HR.out]; rfl, hmr.al _⟩
        · have hr := HB.out x rfl (Or.inr h2)
          have HR := Lib.hid hr
          clear hr
          go_wp2
          go_ret
          exact ⟨by rw [HR.out]; rfl, hmr.al _⟩
        · go_wp2
          go_roundw
          case rel => exact ⟨j + 1, by omega, by go_num, HM.out x rfl h1 h2, hm1.al _⟩
          case measure => simp [intOf]; omega
      · obtain rfl : j = bl.length := by omega
        have hr := rightR_end (r := ⟨true, src, i, bl⟩) (Or.inl rfl) hall
        have HR := Lib.hid hr
        clear hr hall hel
        have z7 := hm1.new 7 (v := .slice oa bl.length cap) rfl
        by_cases hl7 : bl.length ≤ 7
        · have hl7i : (bl.length : Int) ≤ 7 := by omega
          go_wp2
          go_ret
          exact ⟨by rw [HR.out]; simp [hl7]; try rfl, hmr⟩
        · have hl7i : ¬ (bl.length : Int) ≤ 7 := by omega
          go_wp2
          go_ret
          exact ⟨by rw [HR.out]; simp [hl7]; try rfl, hmr⟩
  | false =>
    have M0 := More.alloc w (.cells #[.bool false, .int .u32 src, .int .u32 i.sec, .int .u32 i.frac, .int .u32 i.stamp, .int .u32 i.pkts, .int .u32 i.octs, .slice oa bl.length cap] 27)
    by_cases hi : i = inf0
    · have q : ∀ w, (binOp .neq 24 (.agg #[.int .u32 i.sec, .int .u32 i.frac, .int .u32 i.stamp, .int .u32 i.pkts, .int .u32 i.octs]) (.agg #[.int .u32 0, .int .u32 0, .int .u32 0, .int .u32 0, .int .u32 0])).run Try.prog w = .ok (.bool false) w := fun w => by
        have := inf_ne i inf0 w
        rw [decide_eq_true hi] at this
        exact this
      have HI := Lib.hid hi
      clear hi
      go_enter Try.func21, Try.ntmps21
      go_wp2
      go_loopw [15] (fun ix wr => ∃ j : Nat, j ≤ bl.length ∧ ix = .int .i64 j ∧ (∀ k, k < j → missOK (bl.getD k blk0) = true) ∧ More (w.alloc (.cells #[.bool false, .int .u32 src, .int .u32 i.sec, .int .u32 i.frac, .int .u32 i.stamp, .int .u32 i.pkts, .int .u32 i.octs, .slice oa bl.length cap] 27)) wr) (fun ix _ => bl.length - (intOf ix).toNat)
      case atStart => exact ⟨0, by omega, rfl, fun k hk => by omega, More.refl _⟩
      case round =>
        obtain ⟨j, hj, rfl, hall, hm1⟩ := hrel
        have hmr := M0.trans hm1
        by_cases hlt : j < bl.length
        · obtain ⟨b, off, rfl, hb, ht⟩ := hel j hlt
          obtain ⟨c0, c1, c2, c3, c4, c5, c6, hok⟩ := ht.more hmr hb
          have hjl : (j : Int) < (bl.length : Int) := by omega
          have hbw : b < wr.heap.size := Nat.lt_of_lt_of_le hb hmr.size
          have HALL := Lib.hid hall
          have HNO : Hid (missOK (bl.getD j blk0) = false → rightR ⟨false, src, i, bl⟩ = false) := Lib.hid (fun h => rightR_miss (r := ⟨false, src, i, bl⟩) hlt h)
          have hways : (bl.getD j blk0).miss < -8388608 ∨ (¬ (bl.getD j blk0).miss < -8388608 ∧ 8388607 < (bl.getD j blk0).miss) ∨ (¬ (bl.getD j blk0).miss < -8388608 ∧ ¬ 8388607 < (bl.getD j blk0).miss) := by omega
          have HM : Hid (∀ x, (bl.getD j blk0).miss = x → ¬ x < -8388608 → ¬ 8388607 < x → ∀ k, k < j + 1 → missOK (bl.getD k blk0) = true) := Lib.hid (fun x e h1 h2 k hk => by
            subst e
            by_cases e : k < j
            · exact HALL.out k e
            · obtain rfl : k = j := by omega
              exact (missOK_iff _).2 ⟨by omega, by omega⟩)
          have HB : Hid (∀ x, (bl.getD j blk0).miss = x → (x < -8388608 ∨ 8388607 < x) → rightR ⟨false, src, i, bl⟩ = false) := Lib.hid (fun x e h => by
            subst e
            exact HNO.out (missOK_no (b := bl.getD j blk0) (by omega)))
          clear hel ht hall hok HALL HNO
          generalize hx : (bl.getD j blk0).miss = x at *
          have HX := Lib.hid hx
          clear hx
          rcases hways with h1 | ⟨h1, h2⟩ | ⟨h1, h2⟩
          · have hr := HB.out x rfl (Or.inl h1)
            have HR := Lib.hid hr
            clear hr
            go_wp2
            go_ret
            exact ⟨by rw [HR.out]; rfl, hmr.al _⟩
          · have hr := HB.out x rfl (Or.inr h2)
            have HR := Lib.hid hr
            clear hr
            go_wp2
            go_ret
            exact ⟨by rw [HR.out]; rfl, hmr.al _⟩
          · go_wp2
            go_roundw
            case rel => exact ⟨j + 1, by omega, by go_num, HM.out x rfl h1 h2, hm1.al _⟩
            case measure => simp [intOf]; omega
        · obtain rfl : j = bl.length := by omega
          have hr := rightR_end (r := ⟨false, src, i, bl⟩) (Or.inr HI.out) hall
          have HR := Lib.hid hr
          clear hr hall hel
          have z7 := hm1.new 7 (v := .slice oa bl.length cap) rfl
          by_cases hl7 : bl.length ≤ 8
          · have hl7i : (bl.length : Int) ≤ 8 := by omega
            go_wp2
            go_ret
            exact ⟨by rw [HR.out]; simp [hl7]; try rfl, hmr⟩
          · have hl7i : ¬ (bl.length : Int) ≤ 8 := by omega
            go_wp2
            go_ret
            exact ⟨by rw [HR.out]; simp [hl7]; try rfl, hmr⟩
    · have q : ∀ w, (binOp .neq 24 (.agg #[.int .u32 i.sec, .int .u32 i.frac, .int .u32 i.stamp, .int .u32 i.pkts, .int .u32 i.octs]) (.agg #[.int .u32 0, .int .u32 0, .int .u32 0, .int .u32 0, .int .u32 0])).run Try.prog w = .ok (.bool true) w := fun w => by
        have := inf_ne i inf0 w
        rw [decide_eq_false hi] at this
        exact this
      have hr : rightR ⟨false, src, i, bl⟩ = false := by unfold rightR; simp [hi]
      have HR := Lib.hid hr
      clear hr hi hel
      go_enter Try.func21, Try.ntmps21
      go_wp2
      go_ret
      exact ⟨by rw [HR.out]; rfl, M0⟩
end Go.Proofs.Ytlnikmcimmnbmaa
