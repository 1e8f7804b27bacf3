/- Merged from my texts ReportJ. -/
import Derived.Test.YtlnikmcimmnbmaaMg17
import Derived.Test.YtlnikmcimmnbmaaMg19
/- Reports: the document's Right; numbers' bytes; numbers read. -/
namespace Go.Proofs.Ytlnikmcimmnbmaa
set_option linter.unusedSimpArgs false
set_option linter.unusedVariables false
open Go.RowKit
set_option maxRecDepth 100000

set_option maxHeartbeats 4000000 in
theorem RRight08_any {w : World} {vb : Value} (r : Rep) (sl : SlP 7 RBlk w vb r.bl) :
    Calls Try.prog 22 #[.agg #[.bool r.snd, .int .u32 r.src, .int .u32 r.inf.sec, .int .u32 r.inf.frac, .int .u32 r.inf.stamp, .int .u32 r.inf.pkts, .int .u32 r.inf.octs, vb]] w fun e w' => e = .returned (.bool (rightR r)) ∧ More w w' := by
  obtain ⟨s, src, i, bl⟩ := r
  simp only at *
  obtain ⟨oa, cap, rfl, hl63, hel⟩ := blks sl
  clear sl
  have EG := inf_guard'
  by_cases h8 : (8 : Int) < bl.length
  · cases s with
    | true =>
      have HR : Hid (rightR ⟨true, src, i, bl⟩ = false) := Lib.hid (by
        rw [Bool.eq_false_iff]
        intro h
        obtain ⟨q1, q2, q3⟩ := (rightR_iff _).1 h
        simp at q1 q3
        omega)
      clear hel
      go_enter Try.func22, Try.ntmps22
      go_wp2
      go_ret
      exact ⟨by rw [HR.out]; rfl, (More.alloc w (.cells #[.bool true, .int .u32 src, .int .u32 i.sec, .int .u32 i.frac, .int .u32 i.stamp, .int .u32 i.pkts, .int .u32 i.octs, .slice oa bl.length cap] 41)).al (.cells #[.int .u32 0, .int .u32 0, .int .u32 0, .int .u32 0, .int .u32 0] 38)⟩
    | false =>
      have HR : Hid (rightR ⟨false, src, i, bl⟩ = false) := Lib.hid (by
        rw [Bool.eq_false_iff]
        intro h
        obtain ⟨q1, q2, q3⟩ := (rightR_iff _).1 h
        simp at q1 q3
        omega)
      clear hel
      go_enter Try.func22, Try.ntmps22
      go_wp2
      go_ret
      exact ⟨by rw [HR.out]; rfl, (More.alloc w (.cells #[.bool false, .int .u32 src, .int .u32 i.sec, .int .u32 i.frac, .int .u32 i.stamp, .int .u32 i.pkts, .int .u32 i.octs, .slice oa bl.length cap] 41)).al (.cells #[.int .u32 0, .int .u32 0, .int .u32 0, .int .u32 0, .int .u32 0] 38)⟩
  cases s with
  | true =>
    by_cases h7 : (7 : Int) < bl.length
    · have HR : Hid (rightR ⟨true, src, i, bl⟩ = false) := Lib.hid (by
        rw [Bool.eq_false_iff]
        intro h
        obtain ⟨q1, q2, q3⟩ := (rightR_iff _).1 h
        simp at q1 q3
        omega)
      clear hel
      go_enter Try.func22, Try.ntmps22
      go_wp2
      go_ret
      exact ⟨by rw [HR.out]; rfl, (More.alloc w (.cells #[.bool true, .int .u32 src, .int .u32 i.sec, .int .u32 i.frac, .int .u32 i.stamp, .int .u32 i.pkts, .int .u32 i.octs, .slice oa bl.length cap] 41)).al (.cells #[.int .u32 0, .int .u32 0, .int .u32 0, .int .u32 0, .int .u32 0] 38)⟩
    · have M0 := (More.alloc w (.cells #[.bool true, .int .u32 src, .int .u32 i.sec, .int .u32 i.frac, .int .u32 i.stamp, .int .u32 i.pkts, .int .u32 i.octs, .slice oa bl.length cap] 41)).al (.cells #[.int .u32 0, .int .u32 0, .int .u32 0, .int .u32 0, .int .u32 0] 38)
      go_enter Try.func22, Try.ntmps22
      go_wp2
      go_loopw [4] (fun ix wr => ∃ j : Nat, j ≤ bl.length ∧ ix = .int .i64 j ∧ (∀ k, k < j → missOK (bl.getD k blk0) = true) ∧ More ((w.alloc (.cells #[.bool true, .int .u32 src, .int .u32 i.sec, .int .u32 i.frac, .int .u32 i.stamp, .int .u32 i.pkts, .int .u32 i.octs, .slice oa bl.length cap] 41)).alloc (.cells #[.int .u32 0, .int .u32 0, .int .u32 0, .int .u32 0, .int .u32 0] 38)) wr) (fun ix _ => bl.length - (intOf ix).toNat)
      case atStart => exact ⟨0, by omega, rfl, fun k hk => by omega, More.refl _⟩
      case round =>
        obtain ⟨j, hj, rfl, hall, hm1⟩ := hrel
        have hmr := M0.trans hm1
        have f3 := blk_cell (blk_more hm1 (blk_alloc (blk_new w (.cells #[.bool true, .int .u32 src, .int .u32 i.sec, .int .u32 i.frac, .int .u32 i.stamp, .int .u32 i.pkts, .int .u32 i.octs, .slice oa bl.length cap] 41)) (.cells #[.int .u32 0, .int .u32 0, .int .u32 0, .int .u32 0, .int .u32 0] 38))) 7 (v := .slice oa bl.length cap) rfl
        by_cases hlt : j < bl.length
        · obtain ⟨b, off, rfl, hb, ht⟩ := hel j hlt
          obtain ⟨c0, c1, c2, c3, c4, c5, c6, hok⟩ := ht.more hmr hb
          have hjl : (j : Int) < (bl.length : Int) := by omega
          have hbw : b < wr.heap.size := Nat.lt_of_lt_of_le hb hmr.size
          have HALL := Lib.hid hall
          have HNO : Hid (missOK (bl.getD j blk0) = false → rightR ⟨true, src, i, bl⟩ = false) := Lib.hid (fun h => rightR_miss (r := ⟨true, src, i, bl⟩) hlt h)
          have hways : (bl.getD j blk0).miss < -8388608 ∨ (¬ (bl.getD j blk0).miss < -8388608 ∧ 8388607 < (bl.getD j blk0).miss) ∨ (¬ (bl.getD j blk0).miss < -8388608 ∧ ¬ 8388607 < (bl.getD j blk0).miss) := by omega
          have HM : Hid (∀ x, (bl.getD j blk0).miss = x → ¬ x < -8388608 → ¬ 8388607 < x → ∀ k, k < j + 1 → missOK (bl.getD k blk0) = true) := Lib.hid (fun x e h1 h2 k hk => by
            subst e
            by_cases e : k < j
            · exact HALL.out k e
            · obtain rfl : k = j := by omega
              exact (missOK_iff _).2 ⟨by omega, by omega⟩)
          have HB : Hid (∀ x, (bl.getD j blk0).miss = x → (x < -8388608 ∨ 8388607 < x) → rightR ⟨true, src, i, bl⟩ = false) := Lib.hid (fun x e h => by
            subst e
            exact HNO.out (missOK_no (b := bl.getD j blk0) (by omega)))
          clear hel ht hall hok HALL HNO
          generalize hx : (bl.getD j blk0).miss = x at *
          have HX := Lib.hid hx
          clear hx
          rcases hways with h1 | ⟨h1, h2⟩ | ⟨h1, h2⟩
          · have hr := HB.out x rfl (Or.inl h1)
            have HR := Lib.hid hr
            clear hr
            go_wp2
            go_ret
            exact ⟨by rw [HR.out]; rfl, hmr⟩
          · have hr := HB.out x rfl (Or.inr h2)
            have HR := Lib.hid hr
            clear hr
            go_wp2
            go_ret
            exact ⟨by rw [HR.out]; rfl, hmr⟩
          · go_wp2
            go_roundw
            case rel => exact ⟨j + 1, by omega, by go_num, HM.out x rfl h1 h2, hm1⟩
            case measure => simp [intOf]; omega
        · obtain rfl : j = bl.length := by omega
          have hr := rightR_end (r := ⟨true, src, i, bl⟩) (Or.inl rfl) hall
          have hr2 : rightR ⟨true, src, i, bl⟩ = true := by rw [hr]; simp; omega
          have HR := Lib.hid hr2
          clear hr hr2 hall hel
          go_wp2
          go_ret
          exact ⟨by rw [HR.out]; rfl, hmr⟩
  | false =>
    by_cases hi : i = inf0
    · have q : ∀ w, (binOp .neq 38 (.agg #[.int .u32 i.sec, .int .u32 i.frac, .int .u32 i.stamp, .int .u32 i.pkts, .int .u32 i.octs]) (.agg #[.int .u32 0, .int .u32 0, .int .u32 0, .int .u32 0, .int .u32 0])).run Try.prog w = .ok (.bool false) w := fun w => by
        have := inf_ne' i inf0 w
        rw [decide_eq_true hi] at this
        exact this
      have HI := Lib.hid hi
      clear hi
      have M0 := (More.alloc w (.cells #[.bool false, .int .u32 src, .int .u32 i.sec, .int .u32 i.frac, .int .u32 i.stamp, .int .u32 i.pkts, .int .u32 i.octs, .slice oa bl.length cap] 41)).al (.cells #[.int .u32 0, .int .u32 0, .int .u32 0, .int .u32 0, .int .u32 0] 38)
      go_enter Try.func22, Try.ntmps22
      go_wp2
      go_loopw [4] (fun ix wr => ∃ j : Nat, j ≤ bl.length ∧ ix = .int .i64 j ∧ (∀ k, k < j → missOK (bl.getD k blk0) = true) ∧ More ((w.alloc (.cells #[.bool false, .int .u32 src, .int .u32 i.sec, .int .u32 i.frac, .int .u32 i.stamp, .int .u32 i.pkts, .int .u32 i.octs, .slice oa bl.length cap] 41)).alloc (.cells #[.int .u32 0, .int .u32 0, .int .u32 0, .int .u32 0, .int .u32 0] 38)) wr) (fun ix _ => bl.length - (intOf ix).toNat)
      case atStart => exact ⟨0, by omega, rfl, fun k hk => by omega, More.refl _⟩
      case round =>
        obtain ⟨j, hj, rfl, hall, hm1⟩ := hrel
        have hmr := M0.trans hm1
        have f3 := blk_cell (blk_more hm1 (blk_alloc (blk_new w (.cells #[.bool false, .int .u32 src, .int .u32 i.sec, .int .u32 i.frac, .int .u32 i.stamp, .int .u32 i.pkts, .int .u32 i.octs, .slice oa bl.length cap] 41)) (.cells #[.int .u32 0, .int .u32 0, .int .u32 0, .int .u32 0, .int .u32 0] 38))) 7 (v := .slice oa bl.length cap) rfl
        by_cases hlt : j < bl.length
        · obtain ⟨b, off, rfl, hb, ht⟩ := hel j hlt
          obtain ⟨c0, c1, c2, c3, c4, c5, c6, hok⟩ := ht.more hmr hb
          have hjl : (j : Int) < (bl.length : Int) := by omega
          have hbw : b < wr.heap.size := Nat.lt_of_lt_of_le hb hmr.size
          have HALL := Lib.hid hall
          have HNO : Hid (missOK (bl.getD j blk0) = false → rightR ⟨false, src, i, bl⟩ = false) := Lib.hid (fun h => rightR_miss (r := ⟨false, src, i, bl⟩) hlt h)
          have hways : (bl.getD j blk0).miss < -8388608 ∨ (¬ (bl.getD j blk0).miss < -8388608 ∧ 8388607 < (bl.getD j blk0).miss) ∨ (¬ (bl.getD j blk0).miss < -8388608 ∧ ¬ 8388607 < (bl.getD j blk0).miss) := by omega
          have HM : Hid (∀ x, (bl.getD j blk0).miss = x → ¬ x < -8388608 → ¬ 8388607 < x → ∀ k, k < j + 1 → missOK (bl.getD k blk0) = true) := Lib.hid (fun x e h1 h2 k hk => by
            subst e
            by_cases e : k < j
            · exact HALL.out k e
            · obtain rfl : k = j := by omega
              exact (missOK_iff _).2 ⟨by omega, by omega⟩)
          have HB : Hid (∀ x, (bl.getD j blk0).miss = x → (x < -8388608 ∨ 8388607 < x) → rightR ⟨false, src, i, bl⟩ = false) := Lib.hid (fun x e h => by
            subst e
            exact HNO.out (missOK_no (b := bl.getD j blk0) (by omega)))
          clear hel ht hall hok HALL HNO
          generalize hx : (bl.getD j blk0).miss = x at *
          have HX := Lib.hid hx
          clear hx
          rcases hways with h1 | ⟨h1, h2⟩ | ⟨h1, h2⟩
          · have hr := HB.out x rfl (Or.inl h1)
            have HR := Lib.hid hr
            clear hr
            go_wp2
            go_ret
            exact ⟨by rw [HR.out]; rfl, hmr⟩
          · have hr := HB.out x rfl (Or.inr h2)
            have HR := Lib.hid hr
            clear hr
            go_wp2
            go_ret
            exact ⟨by rw [HR.out]; rfl, hmr⟩
          · go_wp2
            go_roundw
            case rel => exact ⟨j + 1, by omega, by go_num, HM.out x rfl h1 h2, hm1⟩
            case measure => simp [intOf]; omega
        · obtain rfl : j = bl.length := by omega
          have hr := rightR_end (r := ⟨false, src, i, bl⟩) (Or.inr HI.out) hall
          have hr2 : rightR ⟨false, src, i, bl⟩ = true := by rw [hr]; simp; omega
          have HR := Lib.hid hr2
          clear hr hr2 hall hel
          go_wp2
          go_ret
          exact ⟨by rw [HR.out]; rfl, hmr⟩
    · have q : ∀ w, (binOp .neq 38 (.agg #[.int .u32 i.sec, .int .u32 i.frac, .int .u32 i.stamp, .int .u32 i.pkts, .int .u32 i.octs]) (.agg #[.int .u32 0, .int .u32 0, .int .u32 0, .int .u32 0, .int .u32 0])).run Try.prog w = .ok (.bool true) w := fun w => by
        have := inf_ne' i inf0 w
        rw [decide_eq_false hi] at this
        exact this
      have HI := Lib.hid hi
      clear hi
      have HR : Hid (rightR ⟨false, src, i, bl⟩ = false) := Lib.hid (by
        rw [Bool.eq_false_iff]
        intro h
        obtain ⟨q1, q2, q3⟩ := (rightR_iff _).1 h
        simp at q1 q3
        exact HI.out q1)
      clear hel
      go_enter Try.func22, Try.ntmps22
      go_wp2
      go_ret
      exact ⟨by rw [HR.out]; rfl, (More.alloc w (.cells #[.bool false, .int .u32 src, .int .u32 i.sec, .int .u32 i.frac, .int .u32 i.stamp, .int .u32 i.pkts, .int .u32 i.octs, .slice oa bl.length cap] 41)).al (.cells #[.int .u32 0, .int .u32 0, .int .u32 0, .int .u32 0, .int .u32 0] 38)⟩
set_option maxHeartbeats 1000000 in
theorem RRight07_any {w : World} {vb : Value} (c : Chunk) (hb : SlI .u8 w vb c.2.2.1) :
    Calls Try.prog 82 #[.agg #[.int .u8 c.1, .int .u8 c.2.1, vb]] w fun e w' => e = .returned (.bool (rightB c)) ∧ More w w' := by
  obtain ⟨k, n, b, ⟨⟩⟩ := c
  simp only at *
  obtain ⟨oa, cap, rfl, hl, -⟩ := hb
  by_cases h1 : k ≤ 31
  · by_cases h2 : (b.length : Int) ≤ 196
    · by_cases h3 : (b.length : Int) % 4 = 0
      · have HR : Hid (rightB (k, n, b, ()) = true) := Lib.hid ((rightB_iff _).2 ⟨h1, by show b.length % 4 = 0; omega, by show b.length ≤ 196; omega⟩)
        go_enter Try.func82, Try.ntmps82
        go_wp2
        go_ret
        exact ⟨by rw [HR.out]; rfl, More.alloc _ _⟩
      · have HR : Hid (rightB (k, n, b, ()) = false) := Lib.hid (by
          rw [Bool.eq_false_iff]; intro h; obtain ⟨q1, q2, q3⟩ := (rightB_iff _).1 h; have q2 : b.length % 4 = 0 := q2; omega)
        have h3b : ((b.length : Int) % 4 == 0) = false := by simpa using h3
        go_enter Try.func82, Try.ntmps82
        go_wp2
        go_ret
        exact ⟨by rw [HR.out]; rfl, More.alloc _ _⟩
    · have HR : Hid (rightB (k, n, b, ()) = false) := Lib.hid (by
        rw [Bool.eq_false_iff]; intro h; obtain ⟨q1, q2, q3⟩ := (rightB_iff _).1 h; have q3 : b.length ≤ 196 := q3; omega)
      go_enter Try.func82, Try.ntmps82
      go_wp2
      go_ret
      exact ⟨by rw [HR.out]; rfl, More.alloc _ _⟩
  · have HR : Hid (rightB (k, n, b, ()) = false) := Lib.hid (by
      rw [Bool.eq_false_iff]; intro h; obtain ⟨q1, q2, q3⟩ := (rightB_iff _).1 h; exact h1 q1)
    go_enter Try.func82, Try.ntmps82
    go_wp2
    go_ret
    exact ⟨by rw [HR.out]; rfl, More.alloc _ _⟩
/-- Numbers' bytes. -/
def numsB (l : List Int) : List Int := l.flatMap fun x => bysA x 4
theorem numsB_snoc (l : List Int) (x : Int) : numsB (l ++ [x]) = numsB l ++ bysA x 4 := by unfold numsB; simp
theorem numsB_len (l : List Int) : (numsB l).length = 4 * l.length := by
  induction l with
  | nil => rfl
  | cons x l ih =>
    show (bysA x 4 ++ numsB l).length = _
    rw [List.length_append, ih, bysA_len2 _ _ (by decide), List.length_cons]
    show 4 + _ = _
    omega
set_option maxHeartbeats 2000000 in
theorem RNums_any (l : List Int) (v : Value) (w : World) (sl : SlI .u32 w v l) (hu : ∀ i, U32 (l.getD i 0)) (hl : l.length ≤ 1000) :
    Calls Try.prog 75 #[v] w fun e w' => ∃ v', e = .returned v' ∧ w'.ownsRow w.heap.size 5 1 v' (numsB l).length ((numsB l).map (Value.int .u8)) ∧ More w w' := by
  obtain ⟨i0, hi, hz0, hz1, hz2⟩ := info_parts (P := Try.prog) (e := 5) (z := .int .u8 0) (size := 1) (bytes := 1) (by kernel_rfl)
  obtain ⟨oa, cap, rfl, hl1, hel, -⟩ := sl
  go_enter Try.func75, Try.ntmps75
  go_wp2
  go_loopw [3, 4] (fun s3 ix wr => ∃ j : Nat, j ≤ l.length ∧ ix = .int .i64 j ∧ wr.ownsRow w.heap.size 5 1 s3 (numsB (l.take j)).length ((numsB (l.take j)).map (Value.int .u8)) ∧ More w wr) (fun _ ix _ => l.length - (intOf ix).toNat)
  case atStart =>
    refine ⟨0, by omega, rfl, ?_, ?_⟩
    · rw [List.take_zero]
      simpa [numsB] using World.ownsRow_lit (base := w.heap.size) (size := 1) (e := 5) w #[] 0 (Nat.le_refl _) (by unfold maxLen; omega) (by simp)
    · exact More.alloc _ _
  case round =>
    obtain ⟨j, hj, rfl, ho, hm⟩ := hrel
    have HO := Lib.hid ho
    have HM := Lib.hid hm
    clear ho
    by_cases hlt : j < l.length
    · obtain ⟨b1, off1, rfl, hw1, d1⟩ := hel j hlt
      have d2 : wr.cell? ⟨b1, off1 + j, none⟩ = some (.int .u32 (l.getD j 0)) := by rw [hm.cells b1 _ hw1]; exact d1
      have ux := hu j
      have HSN : Hid (numsB (l.take (j + 1)) = numsB (l.take j) ++ bysA (l.getD j 0) 4) := Lib.hid (by rw [List.take_succ_eq_append_getElem hlt, numsB_snoc, List.getD_eq_getElem?_getD, List.getElem?_eq_getElem hlt]; rfl)
      have GT : (numsB (l.take j)).length ≤ 4000 := by rw [numsB_len, List.length_take]; omega
      obtain ⟨x, hx⟩ : ∃ x, l.getD j 0 = x := ⟨_, rfl⟩
      rw [hx] at d2 ux HSN
      obtain ⟨u0, u1⟩ := ux
      have GX : (bysA x 4).length = 4 := by rw [bysA_len2 _ _ (by decide)]; rfl
      have hjl : (j : Int) < (l.length : Int) := by omega
      have hbw : b1 < wr.heap.size := Nat.lt_of_lt_of_le hw1 hm.size
      clear hel hx d1 hu
      go_wp2_with (first | (go_at_call 76; ((with_reducible refine (RBytes_all (x) 4 (by unfold U64; omega) (by decide) _).mono ?_); rintro e wa ⟨va, rfl, sa, ma⟩; have OA := Lib.hid (owns_more HO.out ma))) | (at_builtin; refine wpList_append_at _ rfl (.tmp 12) (.tmp 18) 28 rfl w.heap.size 5 i0 (.int .u8 0) 1 Try.underlying28 hi hz0 hz1 hz2 rfl _ .u8 (numsB (l.take j)) rfl OA.out _ (bysA x 4) rfl sa (by omega) (by decide) (Nat.le_trans HM.out.size ma.size) ?_; intro vc wc ho hg _; have OC := Lib.hid ho; have MC := Lib.hid ((HM.out.trans ma).grown hg (Nat.le_trans HM.out.size ma.size) (fun z hz => by have := owns_ge OA.out hz; omega)); clear ho hg))
      go_roundw
      case rel => exact ⟨j + 1, by omega, by go_num, by rw [HSN.out]; exact OC.out, MC.out⟩
      case measure => simp [intOf]; omega
    · obtain rfl : j = l.length := by omega
      rw [List.take_length] at HO
      go_wp2
      go_ret
      exact ⟨_, rfl, HO.out, HM.out⟩
theorem u32_rd {s : RdS} (h : Byt s.1) : 0 ≤ num (tkB s.1 4) ∧ num (tkB s.1 4) < 4294967296 := num_lt (tkB s.1 (4 : Nat)) 4 (tkB_byt h (4 : Nat)) (tkB_len s.1 4 (by omega)) (by omega)
set_option maxHeartbeats 1000000 in
theorem num08_any {v0 : Value} {L0 : List Int} {w : World} {R : Nat} {s : RdS} (h : RRd w R v0 L0 s) :
    Calls Try.prog 83 #[.pointer (some ⟨R, 0, none⟩)] w fun e w' => e = .returned (.int .u32 (rdNum s)) ∧ RRd w' R v0 L0 (tkS s 4) ∧ Away (fun b => b = R) w w' := by
  have hx := u32_rd (s := s) h.byt
  obtain ⟨x0, x1⟩ := hx
  have RH := Lib.hid h
  obtain ⟨X, hX⟩ : ∃ X, num (tkB s.1 4) = X := ⟨_, rfl⟩
  rw [hX] at x0 x1
  have HX := Lib.hid hX
  clear hX h
  go_enter Try.func83, Try.ntmps83
  go_wp2_with (go_at_call 84; ((with_reducible refine (RNum_any RH.out 4 (by decide)).mono ?_); rintro e w1 ⟨rfl, r1, a1⟩; rw [HX.out]; have R1 := Lib.hid r1; have A1 := Lib.hid a1; clear r1 a1))
  go_ret
  exact ⟨by unfold rdNum; rw [HX.out]; rfl, R1.out, A1.out⟩
theorem shut_at {w : World} {R : Nat} {v0 : Value} {L0 : List Int} {s : RdS} (h : RRd w R v0 L0 s) : ∃ a : Nat, w.heap[R]? = some (.cells #[v0, .int .i64 (a : Int), .int .i64 s.2] 155 (0, 0)) ∧ a ≤ L0.length ∧ (∃ oa c, v0 = .slice oa L0.length c) ∧ (s.2 = 0 → (0 < s.1.length ↔ a < L0.length)) := by
  obtain ⟨a, h1, h2, h3, h4, h5, h6⟩ := h.blk
  obtain ⟨oa, c, rfl, -⟩ := h2
  refine ⟨a, h1, h5, ⟨oa, c, rfl⟩, fun h => ?_⟩
  rw [h6, if_pos h, List.length_drop]
  omega
set_option maxHeartbeats 2000000 in
theorem REnd_any {v0 : Value} {L0 : List Int} {w : World} {R : Nat} {s : RdS} (h : RRd w R v0 L0 s) :
    Calls Try.prog 85 #[.pointer (some ⟨R, 0, none⟩)] w fun e w' => e = .returned (.int .i64 (endS s)) ∧ More w w' := by
  obtain ⟨a, h1, ha, ⟨oa, c, rfl⟩, hc⟩ := shut_at h
  obtain ⟨L, e⟩ := s
  simp only at *
  have c0 : ∀ x : Later w, x.w'.cell? ⟨R, 0, none⟩ = some (.slice oa L0.length c) := fun x => blk_cell (blk_more x.h h1) 0 rfl
  have c1 : ∀ x : Later w, x.w'.cell? ⟨R, 1, none⟩ = some (.int .i64 (a : Int)) := fun x => blk_cell (blk_more x.h h1) 1 rfl
  have c2 : ∀ x : Later w, x.w'.cell? ⟨R, 2, none⟩ = some (.int .i64 e) := fun x => blk_cell (blk_more x.h h1) 2 rfl
  have H1 := Lib.hid h1
  have HC := Lib.hid hc
  clear h h1 hc
  by_cases he : e = 0
  · subst he
    by_cases hl : (a : Int) < (L0.length : Int)
    · have HE : Hid (endS (L, 0) = 4) := Lib.hid (by unfold endS; rw [if_neg (by simp), if_pos ((HC.out rfl).2 (by omega))])
      go_enter Try.func85, Try.ntmps85
      go_wp2_with fail
      refine wp_region_later w (More.refl _) (by kernel_rfl) (by kernel_rfl) ?_
      repeat (go_big_quiet_step (fail))
      refine wpQuiet_nil ?_
      intro _ hw'
      obtain ⟨x9, rfl⟩ := hw'
      go_wp2
      go_ret
      exact ⟨by rw [HE.out]; rfl, x9.h⟩
    · have HE : Hid (endS (L, 0) = 0) := Lib.hid (by unfold endS; rw [if_neg (by simp), if_neg (fun h => hl (by have := (HC.out rfl).1 h; omega))])
      go_enter Try.func85, Try.ntmps85
      go_wp2_with fail
      refine wp_region_later w (More.refl _) (by kernel_rfl) (by kernel_rfl) ?_
      repeat (go_big_quiet_step (fail))
      refine wpQuiet_nil ?_
      intro _ hw'
      obtain ⟨x9, rfl⟩ := hw'
      have k2 := blk_cell (blk_more x9.h H1.out) 2 (v := .int .i64 0) rfl
      go_wp2
      go_ret
      exact ⟨by rw [HE.out]; rfl, x9.h⟩
  · have HE : Hid (endS (L, e) = e) := Lib.hid (by unfold endS; rw [if_pos he])
    have he2 : (e == 0) = false := by simpa using he
    go_enter Try.func85, Try.ntmps85
    go_wp2_with fail
    refine wp_region_later w (More.refl _) (by kernel_rfl) (by kernel_rfl) ?_
    repeat (go_big_quiet_step (fail))
    refine wpQuiet_nil ?_
    intro _ hw'
    obtain ⟨x9, rfl⟩ := hw'
    have k2 := blk_cell (blk_more x9.h H1.out) 2 (v := .int .i64 e) rfl
    go_wp2
    go_ret
    exact ⟨by rw [HE.out]; rfl, x9.h⟩
end Go.Proofs.Ytlnikmcimmnbmaa
