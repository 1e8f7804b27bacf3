/- The document's table of package route: Publish. -/
import Derived.Test.YtmhkjamibcdcdaaRouteL
import Derived.Test.YtmhkjamibcdcdaaRouteD
namespace Go.Proofs.Ytmhkjamibcdcdaa
open Go.RowKit
set_option maxRecDepth 100000

theorem RC_set_pb (r : RS) (p : Nat) (h : p < 3) (v : Bool) : (RC r).setIfInBounds p (.bool v) = RC { r with pb := upd r.pb p v } := by
  have : p = 0 ∨ p = 1 ∨ p = 2 := by omega
  rcases this with rfl | rfl | rfl <;> simp [RC, upd]
theorem RefAt.set_pb {w : World} {R : Nat} {r : RS} (h : RefAt w R r) (p : Nat) (hp : p < 3) (v : Bool) : RefAt (w.setCell ⟨R, p, none⟩ (.bool v)) R { r with pb := upd r.pb p v } := by
  have := blk_set h p (.bool v)
  rw [RC_set_pb r p hp] at this
  exact this
def sr3 (s0 s1 s2 : Int) (l : Nat) : Int := [s0, s1, s2].getD l 0
theorem RC_set_sr (r : RS) (p : Nat) (h : p < 3) (s0 s1 s2 : Int) : (((RC r).setIfInBounds (3 + p * 3) (.int .u32 s0)).setIfInBounds (3 + p * 3 + 1) (.int .u32 s1)).setIfInBounds (3 + p * 3 + 2) (.int .u32 s2) = RC { r with sr := upd r.sr p (sr3 s0 s1 s2) } := by
  have : p = 0 ∨ p = 1 ∨ p = 2 := by omega
  rcases this with rfl | rfl | rfl <;> simp [RC, upd, sr3]
def rPub (r : RS) (p s0 s1 s2 : Int) (taken : Bool) : RS × Int := if (0 ≤ p ∧ p < 3) ∧ ¬ (s0 = s1 ∨ s0 = s2 ∨ s1 = s2) then (if r.pb p.toNat = true then (r, 6) else if taken = true then (r, 6) else ({ r with pb := upd r.pb p.toNat true, sr := upd r.sr p.toNat (sr3 s0 s1 s2) }, 0)) else (r, 1)
/-- Is one of three sources taken? -/
def Taken (r : RS) (s0 s1 s2 : Int) : Prop := ∃ j : Nat, j < 3 ∧ ∃ p l : Nat, p < 3 ∧ l < 3 ∧ r.pb p = true ∧ r.sr p l = [s0, s1, s2].getD j 0
set_option maxHeartbeats 4000000 in
theorem RPublish {w : World} {R : Nat} {r : RS} (h : RefAt w R r) (p s0 s1 s2 : Int) (tk : Bool) (ht : tk = true ↔ Taken r s0 s1 s2) :
    Calls Try.prog 82 #[.pointer (some ⟨R, 0, none⟩), .int .i64 p, .agg #[.int .u32 s0, .int .u32 s1, .int .u32 s2]] w (RefPost R (rPub r p s0 s1 s2 tk) w) := by
  have H := Lib.hid h
  have HTK := Lib.hid ht
  clear ht
  by_cases hp : 0 ≤ p ∧ p < 3
  · obtain ⟨n, rfl⟩ : ∃ n : Nat, p = n := ⟨p.toNat, by omega⟩
    have hn : n < 3 := by omega
    have l1 : ¬ (n : Int) < 0 := by omega
    have l2 : ¬ (2 : Int) < (n : Int) := by omega
    have l5 : (n : Int) < 3 := by omega
    by_cases hd : s0 = s1 ∨ s0 = s2 ∨ s1 = s2
    · have e : rPub r (n : Int) s0 s1 s2 tk = (r, 1) := by
        unfold rPub
        rw [if_neg (fun g => g.2 hd)]
      have hw : s0 = s1 ∨ (¬ s0 = s1 ∧ s0 = s2) ∨ (¬ s0 = s1 ∧ ¬ s0 = s2 ∧ s1 = s2) := by omega
      clear hd hp
      rcases hw with rfl | ⟨g1, rfl⟩ | ⟨g1, g2, rfl⟩
      · skip
        rw [e]
        clear e h
        go_enter Try.func82, Try.ntmps82
        go_wp2
        go_ret
        exact ⟨rfl, H.out.more (More.alloc _ _), Away.of_more (More.alloc _ _)⟩
      · have g3 : (s0 == s1) = false := by simpa using g1
        rw [e]
        clear e h
        go_enter Try.func82, Try.ntmps82
        go_wp2
        go_ret
        exact ⟨rfl, H.out.more (More.alloc _ _), Away.of_more (More.alloc _ _)⟩
      · have g3 : (s0 == s1) = false := by simpa using g1
        rw [e]
        clear e h
        go_enter Try.func82, Try.ntmps82
        go_wp2
        go_ret
        exact ⟨rfl, H.out.more (More.alloc _ _), Away.of_more (More.alloc _ _)⟩
    · have d1 : (s0 == s1) = false := by simp; omega
      have d2 : (s0 == s2) = false := by simp; omega
      have d3 : (s1 == s2) = false := by simp; omega
      have e : rPub r (n : Int) s0 s1 s2 tk = if r.pb n = true then (r, 6) else if tk = true then (r, 6) else ({ r with pb := upd r.pb n true, sr := upd r.sr n (sr3 s0 s1 s2) }, 0) := by
        unfold rPub
        rw [if_pos ⟨hp, hd⟩]
        rfl
      clear hd hp
      have HE := Lib.hid e
      have g := h.more (More.alloc w (.cells #[.int .u32 s0, .int .u32 s1, .int .u32 s2] 80))
      have c0 := blk_cell g n (RC_pb r n hn)
      have BX := Lib.hid (blk_new w (.cells #[.int .u32 s0, .int .u32 s1, .int .u32 s2] 80))
      have hR := blk_lt h
      clear e g h
      cases hb : r.pb n with
      | true =>
        rw [hb] at c0 HE
        have e := HE.out
        rw [if_pos rfl] at e
        rw [e]
        clear e HE
        go_enter Try.func82, Try.ntmps82
        go_wp2
        go_ret
        exact ⟨rfl, H.out.more (More.alloc _ _), Away.of_more (More.alloc _ _)⟩
      | false =>
        rw [hb] at c0 HE
        have e := HE.out
        simp only [Bool.false_eq_true, if_false] at e
        have HE2 := Lib.hid e
        clear e HE
        go_enter Try.func82, Try.ntmps82
        go_wp2_with fail
        go_loopw [7] (fun i wr => ∃ k : Nat, k ≤ 3 ∧ i = .int .i64 k ∧ (∀ j : Nat, j < k → ∀ p l : Nat, p < 3 → l < 3 → r.pb p = true → ¬ r.sr p l = [s0, s1, s2].getD j 0) ∧ More (w.alloc (.cells #[.int .u32 s0, .int .u32 s1, .int .u32 s2] 80)) wr) (fun i _ => 3 - (intOf i).toNat)
        case atStart => exact ⟨0, by omega, rfl, fun j hj => by omega, More.refl _⟩
        case round =>
          obtain ⟨k, hk, rfl, hno, hmr⟩ := hrel
          have HNO := Lib.hid hno
          have HMR := Lib.hid hmr
          clear hno hmr
          by_cases hk3 : k < 3
          · have hk3i : (k : Int) < 3 := by omega
            have b0 := blk_more HMR.out BX.out
            have cx : wr.cell? ⟨w.heap.size, k, none⟩ = some (.int .u32 ([s0, s1, s2].getD k 0)) := blk_cell b0 k (by
              have : k = 0 ∨ k = 1 ∨ k = 2 := by omega
              rcases this with rfl | rfl | rfl <;> rfl)
            have HNX : Hid (∀ y : Int, [s0, s1, s2].getD k 0 = y → RFd r y none → ∀ j : Nat, j < k + 1 → ∀ p l : Nat, p < 3 → l < 3 → r.pb p = true → ¬ r.sr p l = [s0, s1, s2].getD j 0) := Lib.hid (fun y e hf j hj => by
              subst e
              by_cases e : j < k
              · exact HNO.out j e
              · obtain rfl : j = k := by omega
                exact hf.2 rfl)
            have HTY : Hid (∀ y : Int, [s0, s1, s2].getD k 0 = y → ∀ q, RFd r y (some q) → tk = true) := Lib.hid (fun y e q hf => by
              subst e
              obtain ⟨p, l, h1, h2, h3, h4, _⟩ := hf.1 q rfl
              exact HTK.out.2 ⟨k, hk3, p, l, h1, h2, h3, h4⟩)
            clear b0
            generalize hy : [s0, s1, s2].getD k 0 = y at *
            have HYY := Lib.hid hy
            clear hy
            go_wp2_with (go_at_call 40; ((with_reducible refine (RFind (H.out.more ((More.alloc w _).trans HMR.out)) y).mono ?_); rintro e w2 ⟨⟨v, rfl, hf⟩, m2⟩; have HF := Lib.hid hf; have M2 := Lib.hid (HMR.out.trans m2); clear hf m2; rcases v with _ | ⟨q1, q2⟩; all_goals simp only [Option.getD, Option.isSome]))
            · go_roundw
              case rel => exact ⟨k + 1, by omega, by go_num, HNX.out y rfl HF.out, M2.out.al _⟩
              case measure => simp [intOf]; omega
            · go_ret
              have t1 := HTY.out y rfl _ HF.out
              have e := HE2.out
              rw [if_pos t1] at e
              rw [e]
              exact ⟨rfl, H.out.more (((More.alloc w _).trans M2.out).al _), Away.of_more (((More.alloc w _).trans M2.out).al _)⟩
          · obtain rfl : k = 3 := by omega
            have t0 : ¬ tk = true := fun t1 => by
              obtain ⟨j, hj, p, l, h1, h2, h3, h4⟩ := HTK.out.1 t1
              exact HNO.out j hj p l h1 h2 h3 h4
            have e := HE2.out
            rw [if_neg t0] at e
            have HE3 := Lib.hid e
            clear e t0
            have HM := Lib.hid ((More.alloc w (.cells #[.int .u32 s0, .int .u32 s1, .int .u32 s2] 80)).trans HMR.out)
            have g := H.out.more HM.out
            have c1 := blk_cell g n (RC_pb r n hn)
            have fz := blk_free g n
            have g2 := Lib.hid (g.set_pb n hn true)
            have hne : ¬ w.heap.size = R := by omega
            have b2 := Lib.hid ((away_cell (w := wr) (R := R) n (.bool true)).blk (blk_more HMR.out BX.out) hne)
            clear g
            go_wp2_with fail
            have L0 : ∀ x : Later (wr.setCell ⟨R, n, none⟩ (.bool true)), x.w'.cell? ⟨w.heap.size, 0, none⟩ = some (.int .u32 s0) := fun x => blk_cell (blk_more x.h b2.out) 0 rfl
            have L1 : ∀ x : Later (wr.setCell ⟨R, n, none⟩ (.bool true)), x.w'.cell? ⟨w.heap.size, 1, none⟩ = some (.int .u32 s1) := fun x => blk_cell (blk_more x.h b2.out) 1 rfl
            have L2 : ∀ x : Later (wr.setCell ⟨R, n, none⟩ (.bool true)), x.w'.cell? ⟨w.heap.size, 2, none⟩ = some (.int .u32 s2) := fun x => blk_cell (blk_more x.h b2.out) 2 rfl
            refine wp_region_num (wr.setCell ⟨R, n, none⟩ (.bool true)) 6 [(0, false), (1, false), (2, false), (3, true), (4, true), (5, false), (6, true)] (by kernel_rfl) (by kernel_rfl) ?_
            iterate 3 (refine num_quiet rfl rfl (later_mk (by repeat (first | exact More.refl _ | assumption | refine More.dr ?_ _ | refine More.al ?_ _ | refine More.st ?_ (by simp) _))) ?_; intro K hK; go_big_quiet_op; go_big_quiet_on)
            (refine num_next rfl rfl ?_; intro K hK; unfold loud; go_simp)
            refine ⟨later_mk (by repeat (first | exact More.refl _ | assumption | refine More.dr ?_ _ | refine More.al ?_ _ | refine More.st ?_ (by simp) _)), hK _ _ ?_⟩
            clear hK K
            (refine num_next rfl rfl ?_; intro K hK; unfold loud; go_simp)
            refine ⟨later_mk (by repeat (first | exact More.refl _ | assumption | refine More.dr ?_ _ | refine More.al ?_ _ | refine More.st ?_ (by simp) _)), hK _ _ ?_⟩
            clear hK K
            iterate 1 (refine num_quiet rfl rfl (later_mk (by repeat (first | exact More.refl _ | assumption | refine More.dr ?_ _ | refine More.al ?_ _ | refine More.st ?_ (by simp) _))) ?_; intro K hK; go_big_quiet_op; go_big_quiet_on)
            have g3 := blk_more (More.drewN (wr.setCell ⟨R, n, none⟩ (.bool true)) 1) g2.out
            have fz0 := blk_free g3 (3 + n * 3)
            have fz1 := blk_free g3 (3 + n * 3 + 1)
            have fz2 := blk_free g3 (3 + n * 3 + 2)
            have G3 := Lib.hid g3
            have g4 := H.out.more HM.out
            have k0 : wr.cell? ⟨R, 3 + n * 3, none⟩ = some (.int .u32 (r.sr n 0)) := blk_cell g4 (3 + n * 3) (RC_sr r n 0 hn (by decide))
            have k1 : wr.cell? ⟨R, 3 + n * 3 + 1, none⟩ = some (.int .u32 (r.sr n 1)) := blk_cell g4 (3 + n * 3 + 1) (RC_sr r n 1 hn (by decide))
            have k2 : wr.cell? ⟨R, 3 + n * 3 + 2, none⟩ = some (.int .u32 (r.sr n 2)) := blk_cell g4 (3 + n * 3 + 2) (RC_sr r n 2 hn (by decide))
            have f0 := blk_free g4 (3 + n * 3)
            have f1 := blk_free g4 (3 + n * 3 + 1)
            have f2 := blk_free g4 (3 + n * 3 + 2)
            clear g3 g4
            (refine num_end rfl rfl (by decide) ?_; intro K hK; unfold loud; go_simp)
            refine hK _ _ ?_
            clear hK K
            refine num_nil ?_
            go_wp2
            go_ret
            unfold RefPost
            rw [HE3.out]
            refine ⟨rfl, ?_, ?_⟩
            · have e3 := blk_set (blk_set (blk_set G3.out (3 + n * 3) (.int .u32 s0)) (3 + n * 3 + 1) (.int .u32 s1)) (3 + n * 3 + 2) (.int .u32 s2)
              rw [RC_set_sr _ n hn s0 s1 s2] at e3
              exact e3
            · exact ((((Away.of_more HM.out).trans (away_cell n (.bool true))).trans (Away.of_more (More.drewN _ 1))).trans (away_cell _ _)).trans ((away_cell _ _).trans (away_cell _ _))
  · have e : rPub r p s0 s1 s2 tk = (r, 1) := by
      unfold rPub
      rw [if_neg (fun g => hp g.1)]
    have hw : p < 0 ∨ (¬ p < 0 ∧ 2 < p) := by omega
    rcases hw with g1 | ⟨g1, g2⟩
    · skip
      rw [e]
      clear e h
      go_enter Try.func82, Try.ntmps82
      go_wp2
      go_ret
      exact ⟨rfl, H.out.more (More.alloc _ _), Away.of_more (More.alloc _ _)⟩
    · skip
      rw [e]
      clear e h
      go_enter Try.func82, Try.ntmps82
      go_wp2
      go_ret
      exact ⟨rfl, H.out.more (More.alloc _ _), Away.of_more (More.alloc _ _)⟩
end Go.Proofs.Ytmhkjamibcdcdaa
