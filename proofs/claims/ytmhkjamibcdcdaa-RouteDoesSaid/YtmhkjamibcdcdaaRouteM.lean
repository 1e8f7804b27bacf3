/- The document's table of package route: Owners, Subs. -/
import Derived.Test.YtmhkjamibcdcdaaRouteK
namespace Go.Proofs.Ytmhkjamibcdcdaa
open Go.RowKit
set_option maxRecDepth 100000

/-- Those of the first n for whom something holds. -/
def pick6 (pr : Nat → Bool) (n : Nat) : List Int := List.map (fun x : Nat => (x : Int)) (List.filter pr (List.range n))
theorem pick6_len (pr : Nat → Bool) (n : Nat) : (pick6 pr n).length ≤ n := by
  unfold pick6
  rw [List.length_map]
  exact Nat.le_trans (List.length_filter_le _ _) (by simp)
theorem pick6_succ (pr : Nat → Bool) (n : Nat) : pick6 pr (n + 1) = pick6 pr n ++ (if pr n then [(n : Int)] else []) := by
  unfold pick6
  rw [List.range_succ, List.filter_append, List.map_append]
  by_cases h : pr n = true <;> simp [h]
def rOwns (r : RS) (own : Int) (x : Nat) : Bool := r.he x && decide (r.ow x = own)
def rSubs (r : RS) (p : Int) (x : Nat) : Bool := r.he x && decide (0 ≤ p) && decide (r.to x = p)
set_option maxHeartbeats 2000000 in
theorem ROwners {w : World} {R : Nat} {r : RS} (h : RefAt w R r) (own : Int) :
    Calls Try.prog 42 #[.pointer (some ⟨R, 0, none⟩), .int .u32 own] w fun e w' => (∃ v, e = .returned v ∧ SlI .i64 w' v (pick6 (rOwns r own) 6)) ∧ More w w' := by
  obtain ⟨i0, hi, hz0, hz1, hz2⟩ := info_parts (P := Try.prog) (e := 3) (z := .int .i64 0) (size := 1) (bytes := 8) (by kernel_rfl)
  have H := Lib.hid h
  clear h
  go_enter Try.func42, Try.ntmps42
  go_wp2_with fail
  go_loopw [5, 6] (fun s5 i wr => ∃ k : Nat, k ≤ 6 ∧ i = .int .i64 k ∧ wr.ownsRow w.heap.size 3 1 s5 (pick6 (rOwns r own) k).length ((pick6 (rOwns r own) k).map (Value.int .i64)) ∧ More w wr) (fun _ i _ => 6 - (intOf i).toNat)
  case atStart => exact ⟨0, by omega, rfl, by simpa [pick6] using World.ownsRow_lit (e := 3) (size := 1) (base := w.heap.size) w #[] 0 (Nat.le_refl _) (by unfold maxLen; omega) rfl, More.alloc _ _⟩
  case round =>
    obtain ⟨k, hk, rfl, ho, hm⟩ := hrel
    have HO := Lib.hid ho
    have HM := Lib.hid hm
    have zw := hm.size
    clear ho hm
    have hfl := pick6_len (rOwns r own) k
    by_cases hk6 : k < 6
    · have hk6i : (k : Int) < 6 := by omega
      have h1 := H.out.more HM.out
      have c0 := blk_cell h1 (12 + k) (RC_he r k hk6)
      have c1 := blk_cell h1 (18 + k) (RC_ow r k hk6)
      have hps := pick6_succ (rOwns r own) k
      clear h1
      cases hb : r.he k with
      | false =>
        have e0 : rOwns r own k = false := by unfold rOwns; rw [hb]; rfl
        rw [hb] at c0
        rw [e0, if_neg (by simp), List.append_nil] at hps
        have HP := Lib.hid hps
        clear hps hb e0
        go_wp2
        go_roundw
        case rel => exact ⟨k + 1, by omega, by go_num, by rw [HP.out]; exact HO.out, HM.out⟩
        case measure => simp [intOf]; omega
      | true =>
        rw [hb] at c0
        by_cases hs : r.ow k = own
        · have e0 : rOwns r own k = true := by unfold rOwns; rw [hb]; simpa using hs
          have hs' : (r.ow k == own) = true := by simpa using hs
          rw [e0, if_pos rfl] at hps
          have HP := Lib.hid hps
          clear hps hb hs e0
          go_wp2_with (at_builtin; refine wpList_append_at _ rfl (.tmp 28) (.tmp 30) 47 rfl w.heap.size 3 i0 (.int .i64 0) 8 Try.underlying47 hi hz0 hz1 hz2 rfl _ .i64 (pick6 (rOwns r own) k) rfl (HO.out.alloc _) _ [(k : Int)] rfl (SlI.lit .i64 wr [(k : Int)] 3 _ 1 _ (by simp) rfl rfl (by simp)) (by simp; omega) (by decide) (by simp; omega) ?_; intro v6 w6 own6 grow6 _; have HO6 := Lib.hid own6; have HG6 := Lib.hid grow6; clear own6 grow6)
          go_roundw
          case rel => exact ⟨k + 1, by omega, by go_num, by rw [HP.out]; exact HO6.out, (HM.out.al _).grown HG6.out (HM.out.al _).size (fun z hz => own_ge HO.out hz)⟩
          case measure => simp [intOf]; omega
        · have e0 : rOwns r own k = false := by unfold rOwns; rw [hb]; simpa using hs
          have hs' : (r.ow k == own) = false := by simpa using hs
          rw [e0, if_neg (by simp), List.append_nil] at hps
          have HP := Lib.hid hps
          clear hps hb hs e0
          go_wp2
          go_roundw
          case rel => exact ⟨k + 1, by omega, by go_num, by rw [HP.out]; exact HO.out, HM.out⟩
          case measure => simp [intOf]; omega
    · obtain rfl : k = 6 := by omega
      go_wp2
      go_ret
      exact ⟨⟨_, rfl, SlI.of_owns HO.out (by omega)⟩, HM.out⟩
set_option maxHeartbeats 2000000 in
theorem RSubs {w : World} {R : Nat} {r : RS} (h : RefAt w R r) (p : Int) :
    Calls Try.prog 48 #[.pointer (some ⟨R, 0, none⟩), .int .i64 p] w fun e w' => (∃ v, e = .returned v ∧ SlI .i64 w' v (pick6 (rSubs r p) 6)) ∧ More w w' := by
  obtain ⟨i0, hi, hz0, hz1, hz2⟩ := info_parts (P := Try.prog) (e := 3) (z := .int .i64 0) (size := 1) (bytes := 8) (by kernel_rfl)
  have H := Lib.hid h
  clear h
  go_enter Try.func48, Try.ntmps48
  go_wp2_with fail
  go_loopw [5, 6] (fun s5 i wr => ∃ k : Nat, k ≤ 6 ∧ i = .int .i64 k ∧ wr.ownsRow w.heap.size 3 1 s5 (pick6 (rSubs r p) k).length ((pick6 (rSubs r p) k).map (Value.int .i64)) ∧ More w wr) (fun _ i _ => 6 - (intOf i).toNat)
  case atStart => exact ⟨0, by omega, rfl, by simpa [pick6] using World.ownsRow_lit (e := 3) (size := 1) (base := w.heap.size) w #[] 0 (Nat.le_refl _) (by unfold maxLen; omega) rfl, More.alloc _ _⟩
  case round =>
    obtain ⟨k, hk, rfl, ho, hm⟩ := hrel
    have HO := Lib.hid ho
    have HM := Lib.hid hm
    have zw := hm.size
    clear ho hm
    have hfl := pick6_len (rSubs r p) k
    by_cases hk6 : k < 6
    · have hk6i : (k : Int) < 6 := by omega
      have h1 := H.out.more HM.out
      have c0 := blk_cell h1 (12 + k) (RC_he r k hk6)
      have c1 := blk_cell h1 (24 + k) (RC_to r k hk6)
      have hps := pick6_succ (rSubs r p) k
      clear h1
      cases hb : r.he k with
      | false =>
        have e0 : rSubs r p k = false := by unfold rSubs; rw [hb]; rfl
        rw [hb] at c0
        rw [e0, if_neg (by simp), List.append_nil] at hps
        have HP := Lib.hid hps
        clear hps hb e0
        go_wp2
        go_roundw
        case rel => exact ⟨k + 1, by omega, by go_num, by rw [HP.out]; exact HO.out, HM.out⟩
        case measure => simp [intOf]; omega
      | true =>
        rw [hb] at c0
        by_cases hp : p < 0
        · have hp2 : ¬ 0 ≤ p := by omega
          have e0 : rSubs r p k = false := by unfold rSubs; rw [decide_eq_false hp2]; simp
          rw [e0, if_neg (by simp), List.append_nil] at hps
          have HP := Lib.hid hps
          clear hps hb e0
          go_wp2
          go_roundw
          case rel => exact ⟨k + 1, by omega, by go_num, by rw [HP.out]; exact HO.out, HM.out⟩
          case measure => simp [intOf]; omega
        have hp2 : 0 ≤ p := by omega
        by_cases hs : r.to k = p
        · have e0 : rSubs r p k = true := by unfold rSubs; rw [hb, decide_eq_true hp2]; simpa using hs
          have hs' : (r.to k == p) = true := by simpa using hs
          rw [e0, if_pos rfl] at hps
          have HP := Lib.hid hps
          clear hps hb hs e0
          go_wp2_with (at_builtin; refine wpList_append_at _ rfl (.tmp 32) (.tmp 34) 47 rfl w.heap.size 3 i0 (.int .i64 0) 8 Try.underlying47 hi hz0 hz1 hz2 rfl _ .i64 (pick6 (rSubs r p) k) rfl (HO.out.alloc _) _ [(k : Int)] rfl (SlI.lit .i64 wr [(k : Int)] 3 _ 1 _ (by simp) rfl rfl (by simp)) (by simp; omega) (by decide) (by simp; omega) ?_; intro v6 w6 own6 grow6 _; have HO6 := Lib.hid own6; have HG6 := Lib.hid grow6; clear own6 grow6)
          go_roundw
          case rel => exact ⟨k + 1, by omega, by go_num, by rw [HP.out]; exact HO6.out, (HM.out.al _).grown HG6.out (HM.out.al _).size (fun z hz => own_ge HO.out hz)⟩
          case measure => simp [intOf]; omega
        · have e0 : rSubs r p k = false := by unfold rSubs; rw [hb, decide_eq_true hp2]; simpa using hs
          have hs' : (r.to k == p) = false := by simpa using hs
          rw [e0, if_neg (by simp), List.append_nil] at hps
          have HP := Lib.hid hps
          clear hps hb hs e0
          go_wp2
          go_roundw
          case rel => exact ⟨k + 1, by omega, by go_num, by rw [HP.out]; exact HO.out, HM.out⟩
          case measure => simp [intOf]; omega
    · obtain rfl : k = 6 := by omega
      go_wp2
      go_ret
      exact ⟨⟨_, rfl, SlI.of_owns HO.out (by omega)⟩, HM.out⟩
end Go.Proofs.Ytmhkjamibcdcdaa
