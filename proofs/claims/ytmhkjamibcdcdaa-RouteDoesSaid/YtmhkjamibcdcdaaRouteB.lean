/- Contracts of package route: Join, Leave, Subscribe, Unsubscribe. -/
import Derived.Test.YtmhkjamibcdcdaaRouteA
namespace Go.Proofs.Ytmhkjamibcdcdaa
open Go.RowKit
set_option maxRecDepth 100000

def joinT (t : TS) (x own : Int) : TS × Int := if 0 ≤ x ∧ x < 6 then (if (mget t.u x).isSome then (t, 6) else ({ t with u := mput t.u x (own, false, 0) }, 0)) else (t, 1)
def leaveT (t : TS) (x : Int) : TS × Int := if 0 ≤ x ∧ x < 6 then (if (mget t.u x).isSome then ({ t with u := mdel t.u x }, 0) else (t, 5)) else (t, 1)
def subT (t : TS) (x p : Int) : TS × Int := if (0 ≤ x ∧ x < 6) ∧ (0 ≤ p ∧ p < 3) then (if (mget t.u x).isSome ∧ (mget t.s (p, 0)).isSome then (if ((mget t.u x).getD sb0).2.1 then (t, 6) else ({ t with u := mput t.u x (((mget t.u x).getD sb0).1, true, p) }, 0)) else (t, 5)) else (t, 1)
def unsubT (t : TS) (x : Int) : TS × Int := if 0 ≤ x ∧ x < 6 then (if (mget t.u x).isSome ∧ ((mget t.u x).getD sb0).2.1 then ({ t with u := mput t.u x (((mget t.u x).getD sb0).1, false, 0) }, 0) else (t, 5)) else (t, 1)
theorem calls_post {P : Program} {f : FuncId} {args : Array Value} {w : World} {T a b c : Nat} {r : TS × Int} {t' : TS} {v : Int} (hr : r = (t', v)) (h : Calls P f args w fun e w' => e = .returned (.int .i64 v) ∧ TabAt w' T a b c t' ∧ Away (fun z => z = c) w w') :
    Calls P f args w fun e w' => e = .returned (.int .i64 r.2) ∧ TabAt w' T a b c r.1 ∧ Away (fun z => z = c) w w' := by
  subst hr
  exact h

set_option maxHeartbeats 1000000 in
theorem RTJoin {w : World} {T a b c : Nat} {t : TS} (h : TabAt w T a b c t) (x own : Int) :
    Calls Try.prog 78 #[.pointer (some ⟨T, 0, none⟩), .int .i64 x, .int .u32 own] w fun e w' => e = .returned (.int .i64 (joinT t x own).2) ∧ TabAt w' T a b c (joinT t x own).1 ∧ Away (fun z => z = c) w w' := by
  have c2 := blk_cell h.blk 2 (v := .map (some c)) rfl
  have q := h.lookU x
  have HT := Lib.hid h
  by_cases hx : 0 ≤ x ∧ x < 6
  · have HX := Lib.hid hx
    obtain ⟨y, hy⟩ : ∃ y, (mget t.u x).getD sb0 = y := ⟨_, rfl⟩
    rw [hy] at q
    have HY := Lib.hid hy
    clear hy
    cases hs : (mget t.u x).isSome with
    | true =>
      refine calls_post (t' := t) (v := 6) (by unfold joinT; rw [if_pos hx, if_pos hs]) ?_
      rw [hs] at q
      clear hx hs h
      go_enter Try.func78, Try.ntmps78
      go_wp2_with (go_at_call 107; ((with_reducible refine (MaySub_yes x _ HX.out).mono ?_); rintro e w2 ⟨rfl, rfl⟩))
      go_ret
      exact ⟨rfl, HT.out.more (More.alloc _ _), Away.of_more (More.alloc _ _)⟩
    | false =>
      refine calls_post (t' := { t with u := mput t.u x (own, false, 0) }) (v := 0) (by unfold joinT; rw [if_pos hx, hs]; rfl) ?_
      rw [hs] at q
      clear hx hs h
      have c3 := blk_cell (blk_alloc HT.out.blk (.cells #[.int .u32 y.1, .bool y.2.1, .int .i64 y.2.2] 152)) 2 (v := .map (some c)) rfl
      obtain ⟨w9, hr, hm, ha, _⟩ := (HT.out.mu.more (More.alloc w (.cells #[.int .u32 y.1, .bool y.2.1, .int .i64 y.2.2] 152))).update keyI64 Try.underlying147 x (own, false, 0)
      unfold vS at hr
      simp only at hr
      have HM := Lib.hid hm
      have HA := Lib.hid ha
      clear hm ha
      go_enter Try.func78, Try.ntmps78
      go_wp2_with (go_at_call 107; ((with_reducible refine (MaySub_yes x _ HX.out).mono ?_); rintro e w2 ⟨rfl, rfl⟩))
      go_ret
      exact ⟨rfl, (HT.out.more (More.alloc w _)).putU HA.out HM.out, (Away.of_more (More.alloc _ _)).trans HA.out⟩
  · have HX := Lib.hid hx
    refine calls_post (t' := t) (v := 1) (by unfold joinT; rw [if_neg hx]) ?_
    clear hx q
    go_enter Try.func78, Try.ntmps78
    go_wp2_with (go_at_call 107; ((with_reducible refine (MaySub_no x _ HX.out).mono ?_); rintro e w2 ⟨rfl, rfl⟩))
    go_ret
    exact ⟨rfl, HT.out, Away.refl _ _⟩

set_option maxHeartbeats 1000000 in
theorem RTLeave {w : World} {T a b c : Nat} {t : TS} (h : TabAt w T a b c t) (x : Int) :
    Calls Try.prog 81 #[.pointer (some ⟨T, 0, none⟩), .int .i64 x] w fun e w' => e = .returned (.int .i64 (leaveT t x).2) ∧ TabAt w' T a b c (leaveT t x).1 ∧ Away (fun z => z = c) w w' := by
  have c2 := blk_cell h.blk 2 (v := .map (some c)) rfl
  have q := h.lookU x
  have HT := Lib.hid h
  by_cases hx : 0 ≤ x ∧ x < 6
  · have HX := Lib.hid hx
    obtain ⟨y, hy⟩ : ∃ y, (mget t.u x).getD sb0 = y := ⟨_, rfl⟩
    rw [hy] at q
    have HY := Lib.hid hy
    clear hy
    cases hs : (mget t.u x).isSome with
    | false =>
      refine calls_post (t' := t) (v := 5) (by unfold leaveT; rw [if_pos hx, hs]; rfl) ?_
      rw [hs] at q
      clear hx hs h
      go_enter Try.func81, Try.ntmps81
      go_wp2_with (go_at_call 107; ((with_reducible refine (MaySub_yes x _ HX.out).mono ?_); rintro e w2 ⟨rfl, rfl⟩))
      go_ret
      exact ⟨rfl, HT.out.more (More.alloc _ _), Away.of_more (More.alloc _ _)⟩
    | true =>
      refine calls_post (t' := { t with u := mdel t.u x }) (v := 0) (by unfold leaveT; rw [if_pos hx, if_pos hs]) ?_
      rw [hs] at q
      clear hx hs h
      have c3 := blk_cell (blk_alloc HT.out.blk (.cells #[.int .u32 y.1, .bool y.2.1, .int .i64 y.2.2] 152)) 2 (v := .map (some c)) rfl
      obtain ⟨w9, hr, hm, ha, _⟩ := (HT.out.mu.more (More.alloc w (.cells #[.int .u32 y.1, .bool y.2.1, .int .i64 y.2.2] 152))).drop keyI64 Try.underlying147 x 0
      have hr : ∀ ty, (Builtin.delete_ #[147, 3] ty #[.map (some c), .int .i64 x]).run Try.prog (w.alloc (.cells #[.int .u32 y.1, .bool y.2.1, .int .i64 y.2.2] 152)) = .ok (.tuple #[]) w9 := fun _ => hr
      have HM := Lib.hid hm
      have HA := Lib.hid ha
      clear hm ha
      go_enter Try.func81, Try.ntmps81
      go_wp2_with (go_at_call 107; ((with_reducible refine (MaySub_yes x _ HX.out).mono ?_); rintro e w2 ⟨rfl, rfl⟩))
      go_ret
      exact ⟨rfl, (HT.out.more (More.alloc w _)).putU HA.out HM.out, (Away.of_more (More.alloc _ _)).trans HA.out⟩
  · have HX := Lib.hid hx
    refine calls_post (t' := t) (v := 1) (by unfold leaveT; rw [if_neg hx]) ?_
    clear hx q
    go_enter Try.func81, Try.ntmps81
    go_wp2_with (go_at_call 107; ((with_reducible refine (MaySub_no x _ HX.out).mono ?_); rintro e w2 ⟨rfl, rfl⟩))
    go_ret
    exact ⟨rfl, HT.out, Away.refl _ _⟩

set_option maxHeartbeats 1000000 in
theorem RTSubscribe {w : World} {T a b c : Nat} {t : TS} (h : TabAt w T a b c t) (x p : Int) :
    Calls Try.prog 79 #[.pointer (some ⟨T, 0, none⟩), .int .i64 x, .int .i64 p] w fun e w' => e = .returned (.int .i64 (subT t x p).2) ∧ TabAt w' T a b c (subT t x p).1 ∧ Away (fun z => z = c) w w' := by
  have c2 := blk_cell h.blk 2 (v := .map (some c)) rfl
  have q := h.lookU x
  have HT := Lib.hid h
  by_cases hx : 0 ≤ x ∧ x < 6
  · have HX := Lib.hid hx
    by_cases hp : 0 ≤ p ∧ p < 3
    · have HP := Lib.hid hp
      obtain ⟨y, hy⟩ : ∃ y, (mget t.u x).getD sb0 = y := ⟨_, rfl⟩
      cases hs : (mget t.u x).isSome with
      | false =>
        refine calls_post (t' := t) (v := 5) (by unfold subT; rw [if_pos ⟨hx, hp⟩, hs]; rfl) ?_
        rw [hs, hy] at q
        clear hx hs h hp hy
        go_enter Try.func79, Try.ntmps79
        go_wp2_with first | (go_at_call 107; ((with_reducible refine (MaySub_yes x _ HX.out).mono ?_); rintro e w2 ⟨rfl, rfl⟩)) | (go_at_call 104; ((with_reducible refine (MayPub_yes p _ HP.out).mono ?_); rintro e w2 ⟨rfl, rfl⟩))
        go_ret
        exact ⟨rfl, HT.out.more (More.alloc _ _), Away.of_more (More.alloc _ _)⟩
      | true =>
        cases hps : (mget t.s (p, 0)).isSome with
        | false =>
          refine calls_post (t' := t) (v := 5) (by unfold subT; rw [if_pos ⟨hx, hp⟩, hps]; simp) ?_
          have HPS := Lib.hid hps
          rw [hs, hy] at q
          clear hx hs h hp hy hps
          go_enter Try.func79, Try.ntmps79
          go_wp2_with first | (go_at_call 107; ((with_reducible refine (MaySub_yes x _ HX.out).mono ?_); rintro e w2 ⟨rfl, rfl⟩)) | (go_at_call 104; ((with_reducible refine (MayPub_yes p _ HP.out).mono ?_); rintro e w2 ⟨rfl, rfl⟩)) | (go_at_call 106; ((with_reducible refine (RTPublished (HT.out.more (More.alloc w (.cells #[.int .u32 y.1, .bool y.2.1, .int .i64 y.2.2] 152))) p).mono ?_); rintro e w2 ⟨rfl, rfl⟩; rw [HPS.out]))
          go_ret
          exact ⟨rfl, HT.out.more (More.alloc _ _), Away.of_more (More.alloc _ _)⟩
        | true =>
          have HPS := Lib.hid hps
          cases hb : y.2.1 with
          | true =>
            refine calls_post (t' := t) (v := 6) (by unfold subT; rw [if_pos ⟨hx, hp⟩, if_pos ⟨hs, hps⟩, hy, hb]; rfl) ?_
            rw [hs, hy, hb] at q
            clear hx hs h hp hy hps hb
            go_enter Try.func79, Try.ntmps79
            go_wp2_with first | (go_at_call 107; ((with_reducible refine (MaySub_yes x _ HX.out).mono ?_); rintro e w2 ⟨rfl, rfl⟩)) | (go_at_call 104; ((with_reducible refine (MayPub_yes p _ HP.out).mono ?_); rintro e w2 ⟨rfl, rfl⟩)) | (go_at_call 106; ((with_reducible refine (RTPublished (HT.out.more (More.alloc w (.cells #[.int .u32 y.1, .bool true, .int .i64 y.2.2] 152))) p).mono ?_); rintro e w2 ⟨rfl, rfl⟩; rw [HPS.out]))
            go_ret
            exact ⟨rfl, HT.out.more (More.alloc _ _), Away.of_more (More.alloc _ _)⟩
          | false =>
            refine calls_post (t' := { t with u := mput t.u x (y.1, true, p) }) (v := 0) (by unfold subT; rw [if_pos ⟨hx, hp⟩, if_pos ⟨hs, hps⟩, hy, hb]; rfl) ?_
            rw [hs, hy] at q
            have HB := Lib.hid hb
            rw [hb] at q
            clear hx hs h hp hy hps hb
            have L0 : ∀ z : Later (w.alloc (.cells #[.int .u32 y.1, .bool false, .int .i64 y.2.2] 152)), z.w'.cell? ⟨T, 2, none⟩ = some (.map (some c)) := fun z => blk_cell (blk_more z.h (blk_alloc HT.out.blk _)) 2 rfl
            have L1 : ∀ z : Later (w.alloc (.cells #[.int .u32 y.1, .bool false, .int .i64 y.2.2] 152)), z.w'.cell? ⟨w.heap.size, 0, none⟩ = some (.int .u32 y.1) := fun z => z.new 0 rfl
            obtain ⟨w9, hr, hm, ha, _⟩ := ((HT.out.mu.more (More.alloc w (.cells #[.int .u32 y.1, .bool false, .int .i64 y.2.2] 152))).more (More.drewN _ 1)).update keyI64 Try.underlying147 x (y.1, true, p)
            unfold vS at hr
            simp only at hr
            have HM := Lib.hid hm
            have HA := Lib.hid ha
            clear hm ha
            go_enter Try.func79, Try.ntmps79
            go_wp2_with first | (go_at_call 107; ((with_reducible refine (MaySub_yes x _ HX.out).mono ?_); rintro e w2 ⟨rfl, rfl⟩)) | (go_at_call 104; ((with_reducible refine (MayPub_yes p _ HP.out).mono ?_); rintro e w2 ⟨rfl, rfl⟩)) | (go_at_call 106; ((with_reducible refine (RTPublished (HT.out.more (More.alloc w (.cells #[.int .u32 y.1, .bool false, .int .i64 y.2.2] 152))) p).mono ?_); rintro e w2 ⟨rfl, rfl⟩; rw [HPS.out]))
            refine wp_region_num (w.alloc (.cells #[.int .u32 y.1, .bool false, .int .i64 y.2.2] 152)) 9 [(0, false), (1, false), (2, false), (3, false), (4, false), (5, false), (6, false), (7, false), (8, false), (9, true)] (by kernel_rfl) (by kernel_rfl) ?_
            iterate 9 (refine num_quiet rfl rfl (later_mk (by repeat (first | exact More.refl _ | assumption | refine More.dr ?_ _ | refine More.al ?_ _ | refine More.st ?_ (by simp) _))) ?_; intro K hK; go_big_quiet_op; go_big_quiet_on)
            (refine num_end rfl rfl (by decide) ?_; intro K hK; unfold loud; go_simp)
            refine hK _ _ ?_
            clear hK K
            refine num_nil ?_
            go_wp2
            go_ret
            exact ⟨rfl, ((HT.out.more (More.alloc w _)).more (More.drewN _ 1)).putU HA.out HM.out, (Away.of_more ((More.alloc _ _).dr 1)).trans HA.out⟩
    · have HP := Lib.hid hp
      refine calls_post (t' := t) (v := 1) (by unfold subT; rw [if_neg (fun h => hp h.2)]) ?_
      clear hx q hp
      go_enter Try.func79, Try.ntmps79
      go_wp2_with first | (go_at_call 107; ((with_reducible refine (MaySub_yes x _ HX.out).mono ?_); rintro e w2 ⟨rfl, rfl⟩)) | (go_at_call 104; ((with_reducible refine (MayPub_no p _ HP.out).mono ?_); rintro e w2 ⟨rfl, rfl⟩))
      go_ret
      exact ⟨rfl, HT.out, Away.refl _ _⟩
  · have HX := Lib.hid hx
    refine calls_post (t' := t) (v := 1) (by unfold subT; rw [if_neg (fun h => hx h.1)]) ?_
    clear hx q
    go_enter Try.func79, Try.ntmps79
    go_wp2_with (go_at_call 107; ((with_reducible refine (MaySub_no x _ HX.out).mono ?_); rintro e w2 ⟨rfl, rfl⟩))
    go_ret
    exact ⟨rfl, HT.out, Away.refl _ _⟩

set_option maxHeartbeats 1000000 in
theorem RTUnsubscribe {w : World} {T a b c : Nat} {t : TS} (h : TabAt w T a b c t) (x : Int) :
    Calls Try.prog 80 #[.pointer (some ⟨T, 0, none⟩), .int .i64 x] w fun e w' => e = .returned (.int .i64 (unsubT t x).2) ∧ TabAt w' T a b c (unsubT t x).1 ∧ Away (fun z => z = c) w w' := by
  have c2 := blk_cell h.blk 2 (v := .map (some c)) rfl
  have q := h.lookU x
  have HT := Lib.hid h
  by_cases hx : 0 ≤ x ∧ x < 6
  · have HX := Lib.hid hx
    obtain ⟨y, hy⟩ : ∃ y, (mget t.u x).getD sb0 = y := ⟨_, rfl⟩
    cases hs : (mget t.u x).isSome with
    | false =>
      refine calls_post (t' := t) (v := 5) (by unfold unsubT; rw [if_pos hx, hs]; rfl) ?_
      rw [hs, hy] at q
      clear hx hs h hy
      go_enter Try.func80, Try.ntmps80
      go_wp2_with (go_at_call 107; ((with_reducible refine (MaySub_yes x _ HX.out).mono ?_); rintro e w2 ⟨rfl, rfl⟩))
      go_ret
      exact ⟨rfl, HT.out.more (More.alloc _ _), Away.of_more (More.alloc _ _)⟩
    | true =>
      cases hb : y.2.1 with
      | false =>
        refine calls_post (t' := t) (v := 5) (by unfold unsubT; rw [if_pos hx, hy, hb]; simp) ?_
        rw [hs, hy, hb] at q
        clear hx hs h hy hb
        go_enter Try.func80, Try.ntmps80
        go_wp2_with (go_at_call 107; ((with_reducible refine (MaySub_yes x _ HX.out).mono ?_); rintro e w2 ⟨rfl, rfl⟩))
        go_ret
        exact ⟨rfl, HT.out.more (More.alloc _ _), Away.of_more (More.alloc _ _)⟩
      | true =>
        refine calls_post (t' := { t with u := mput t.u x (y.1, false, 0) }) (v := 0) (by unfold unsubT; rw [if_pos hx, hy, hb, hs]; rfl) ?_
        rw [hs, hy, hb] at q
        clear hx hs h hy hb
        have L0 : ∀ z : Later (w.alloc (.cells #[.int .u32 y.1, .bool true, .int .i64 y.2.2] 152)), z.w'.cell? ⟨T, 2, none⟩ = some (.map (some c)) := fun z => blk_cell (blk_more z.h (blk_alloc HT.out.blk _)) 2 rfl
        have L1 : ∀ z : Later (w.alloc (.cells #[.int .u32 y.1, .bool true, .int .i64 y.2.2] 152)), z.w'.cell? ⟨w.heap.size, 0, none⟩ = some (.int .u32 y.1) := fun z => z.new 0 rfl
        obtain ⟨w9, hr, hm, ha, _⟩ := ((HT.out.mu.more (More.alloc w (.cells #[.int .u32 y.1, .bool true, .int .i64 y.2.2] 152))).more (More.drewN _ 1)).update keyI64 Try.underlying147 x (y.1, false, 0)
        unfold vS at hr
        simp only at hr
        have HM := Lib.hid hm
        have HA := Lib.hid ha
        clear hm ha
        go_enter Try.func80, Try.ntmps80
        go_wp2_with (go_at_call 107; ((with_reducible refine (MaySub_yes x _ HX.out).mono ?_); rintro e w2 ⟨rfl, rfl⟩))
        refine wp_region_num (w.alloc (.cells #[.int .u32 y.1, .bool true, .int .i64 y.2.2] 152)) 8 [(0, false), (1, false), (2, false), (3, false), (4, false), (5, false), (6, false), (7, false), (8, true)] (by kernel_rfl) (by kernel_rfl) ?_
        iterate 8 (refine num_quiet rfl rfl (later_mk (by repeat (first | exact More.refl _ | assumption | refine More.dr ?_ _ | refine More.al ?_ _ | refine More.st ?_ (by simp) _))) ?_; intro K hK; go_big_quiet_op; go_big_quiet_on)
        (refine num_end rfl rfl (by decide) ?_; intro K hK; unfold loud; go_simp)
        refine hK _ _ ?_
        clear hK K
        refine num_nil ?_
        go_wp2
        go_ret
        exact ⟨rfl, ((HT.out.more (More.alloc w _)).more (More.drewN _ 1)).putU HA.out HM.out, (Away.of_more ((More.alloc _ _).dr 1)).trans HA.out⟩
  · have HX := Lib.hid hx
    refine calls_post (t' := t) (v := 1) (by unfold unsubT; rw [if_neg hx]) ?_
    clear hx q
    go_enter Try.func80, Try.ntmps80
    go_wp2_with (go_at_call 107; ((with_reducible refine (MaySub_no x _ HX.out).mono ?_); rintro e w2 ⟨rfl, rfl⟩))
    go_ret
    exact ⟨rfl, HT.out, Away.refl _ _⟩

end Go.Proofs.Ytmhkjamibcdcdaa
