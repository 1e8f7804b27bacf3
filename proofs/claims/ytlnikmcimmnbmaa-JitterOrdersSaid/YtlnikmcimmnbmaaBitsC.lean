/- Contracts of bits.Number, bits.Bytes and the reference's Bytes. -/
import Derived.Test.YtlnikmcimmnbmaaBitsB
namespace Go.Proofs.Ytlnikmcimmnbmaa
set_option linter.unusedSimpArgs false
set_option linter.unusedVariables false
open Go.RowKit
set_option maxRecDepth 100000

theorem Number_long (l : List Int) (v : Value) (w : World) (h8 : 8 < l.length) (hv : SlI .u8 w v l) (hb : Byt l) :
    Calls Try.prog 155 #[v] w fun e w' => e = .returned (.int .u64 (num l)) ∧ w' = w := by
  obtain ⟨oa, cap, rfl, hl, hc, hcap, _, _⟩ := hv
  obtain ⟨b, off, rfl, _, _⟩ := hc 0 (by omega)
  have HC := Lib.hid hc
  have HB := Lib.hid hb
  have HL := Lib.hid (num_last l)
  clear hc hb
  go_enter Try.func155, Try.ntmps155
  go_wp2
  obtain ⟨d, hd⟩ : ∃ d, d = l.length - 8 := ⟨_, rfl⟩
  have HM := Lib.hid (show (l.drop d).length = 8 by simp; omega)
  have hdl : d + 8 ≤ l.length := by omega
  have hdg : l.length ≤ d + 8 := by omega
  rw [← hd] at HL ⊢
  clear hd
  go_loop [4, 14] (fun n i => ∃ j : Nat, j ≤ 8 ∧ i = .int .i64 j ∧ n = .int .u64 (num ((l.drop d).take j))) (fun _ i => 8 - (intOf i).toNat)
  case atStart => exact ⟨0, by omega, rfl, by simp [num]⟩
  case round =>
    obtain ⟨j, hj, rfl, rfl⟩ := hrel
    by_cases hlt : j < 8
    · obtain ⟨b', off', e1, _, hcj⟩ := HC.out (d + j) (by omega)
      simp only [Option.some.injEq, Addr.mk.injEq, and_true] at e1
      obtain ⟨rfl, rfl⟩ := e1
      have hbj := HB.out (d + j)
      have hlt2 : d + j < l.length := by omega
      have hcj' : w.cell? ⟨b, off + d + j, none⟩ = some (.int .u8 (l.getD (d + j) 0)) := by rw [Nat.add_assoc]; exact hcj
      clear hcj
      have hst := num_stepO (l.drop d) j (by rw [HM.out]; exact hlt) (fun i => by
        have := HB.out (d + i)
        rwa [List.getD_eq_getElem?_getD, List.getElem?_drop, ← List.getD_eq_getElem?_getD])
      rw [List.getElem_drop] at hst
      have HS := Lib.hid hst
      clear hst
      go_wp2
      go_round
      case rel => exact ⟨j + 1, by omega, by go_num, by rw [← HS.out]⟩
      case measure => simp [intOf]; omega
    · go_wp2
      go_ret
      exact ⟨ret_int (by rw [List.take_of_length_le (by rw [HM.out]; omega)]; exact HL.out), rfl⟩

theorem Number_short (l : List Int) (v : Value) (w : World) (h8 : l.length ≤ 8) (hv : SlI .u8 w v l) (hb : Byt l) :
    Calls Try.prog 155 #[v] w fun e w' => e = .returned (.int .u64 (num l)) ∧ w' = w := by
  obtain ⟨oa, cap, rfl, hl, hc, hcap, _, _⟩ := hv
  have HC := Lib.hid hc
  have HB := Lib.hid hb
  clear hc hb
  go_enter Try.func155, Try.ntmps155
  go_wp2
  go_loop [4, 14] (fun n i => ∃ j : Nat, j ≤ l.length ∧ i = .int .i64 j ∧ n = .int .u64 (num (l.take j))) (fun _ i => l.length - (intOf i).toNat)
  case atStart => exact ⟨0, by omega, rfl, by simp [num]⟩
  case round =>
    obtain ⟨j, hj, rfl, rfl⟩ := hrel
    by_cases hlt : j < l.length
    · obtain ⟨b, off, rfl, _, hcj⟩ := HC.out j hlt
      have hbj := HB.out j
      have HS := Lib.hid (num_stepO l j hlt HB.out)
      go_wp2
      go_round
      case rel => exact ⟨j + 1, by omega, by go_num, by rw [← HS.out]⟩
      case measure => simp [intOf]; omega
    · go_wp2
      go_ret
      exact ⟨ret_int (by rw [List.take_of_length_le (by omega)]), rfl⟩

theorem Number_any (l : List Int) (v : Value) (w : World) (hv : SlI .u8 w v l) (hb : Byt l) :
    Calls Try.prog 155 #[v] w fun e w' => e = .returned (.int .u64 (num l)) ∧ w' = w := by
  by_cases h : 8 < l.length
  · exact Number_long l v w h hv hb
  · exact Number_short l v w (by omega) hv hb
theorem Try.info_u8 : (Try.prog.info? 5).map (fun i => (i.zero, i.size, i.bytes)) = some (some (.int .u8 0), 1, 1) := by kernel_rfl

set_option maxHeartbeats 400000 in
theorem Bytes_yes (n : Int) (s : Nat) (hn : U64 n) (h2 : s ≤ 8) (w : World) :
    Calls Try.prog 154 #[.int .u64 n, .int .i64 s] w fun e w' => ∃ v, e = .returned v ∧ SlI .u8 w' v (bys n s) ∧ More w w' := by
  obtain ⟨n1, n2⟩ := hn
  obtain ⟨i0, hi, hz0, hz1, hz2⟩ := info_parts Try.info_u8
  go_enter Try.func154, Try.ntmps154
  go_wp2_with (at_make; refine wpList_make_full _ rfl _ _ 28 rfl w.heap.size 5 i0 (.int .u8 0) 1 Try.underlying28 hi hz0 hz1 _ _ _ _ s rfl rfl (by omega) (by omega) ?c1 ?c2 ?c3 ?_)
  case c1 => rw [hz2]; omega
  case c2 => unfold maxLen; omega
  case c3 => omega
  intro w1 hown hgrow
  have hbel : Below w.heap.size w w1 := (Below.refl _ _).grown hgrow (by omega) (by simp)
  have hown0 : w1.ownsRow w.heap.size 5 1 (.slice (some ⟨w.heap.size, 0, none⟩) s s) s ((bysTo n s 0).map (Value.int .u8)) := by
    rw [bysTo_zero]; simpa [toList_madeCells_one] using hown
  clear hown hgrow
  go_wp2
  go_loopw [16] (fun i wr => ∃ k : Nat, k ≤ s ∧ i = .int .i64 k ∧ wr.ownsRow w.heap.size 5 1 (.slice (some ⟨w.heap.size, 0, none⟩) s s) s ((bysTo n s k).map (Value.int .u8)) ∧ Below w.heap.size w wr) (fun i _ => s - (intOf i).toNat)
  case atStart => exact ⟨0, by omega, rfl, hown0, hbel⟩
  case round =>
    obtain ⟨k, hk, rfl, hown, hbel⟩ := hrel
    clear hown0
    by_cases hlt : k < s
    · have hcell := hown.cellAt (s - 1 - k) (by omega)
      have hfr := hown.frozenAt (s - 1 - k)
      have hst := hown.stored (s - 1 - k) (.int .u8 (by8 n k))
      rw [List.getElem?_map, List.getElem?_eq_getElem (by rw [bysTo_length]; omega), Option.map_some] at hcell
      go_wp2
      go_roundw
      case rel => exact ⟨k + 1, by omega, by go_num, by rw [← bysTo_set n s k hlt, List.map_set]; exact hst.1, hbel.setCell (Nat.le_refl _) _⟩
      case measure => simp [intOf]; omega
    · obtain rfl : k = s := by omega
      clear hlt hk
      go_wp2
      refine bodyPost_ret (v := .slice (some ⟨w.heap.size, 0, none⟩) k k) (by simp [results, Try.results154, go_sem]) rfl ?_
      rw [bysTo_full] at hown
      have := bys_length n k
      exact ⟨_, rfl, SlI.of_owns (by rw [this]; exact hown) (by rw [this]; omega), hbel⟩

set_option maxHeartbeats 400000 in
theorem RBytes_yes (n : Int) (s : Nat) (hn : U64 n) (h2 : s ≤ 8) (w : World) :
    Calls Try.prog 76 #[.int .u64 n, .int .i64 s] w fun e w' => ∃ v, e = .returned v ∧ SlI .u8 w' v (bys n s) ∧ More w w' := by
  obtain ⟨n1, n2⟩ := hn
  obtain ⟨i0, hi, hz0, hz1, hz2⟩ := info_parts Try.info_u8
  go_enter Try.func76, Try.ntmps76
  go_wp2
  go_loopw [0, 5, 6] (fun N v i wr => ∃ (k : Nat) (m : Int), k ≤ s ∧ i = .int .i64 k ∧ N = .int .u64 m ∧ m = n / 2 ^ (8 * k) ∧ 0 ≤ m ∧ m ≤ n ∧ SlI .u8 wr v (bys n k) ∧ Below w.heap.size w wr) (fun _ _ i _ => s - (intOf i).toNat)
  case atStart => exact ⟨0, n, by omega, rfl, rfl, by simp, n1, Int.le_refl _, SlI.of_owns (base := w.heap.size) (e := 5) (World.ownsRow_lit w #[] 0 (Nat.le_refl _) (by unfold maxLen; omega) rfl) (by simp [bys]), (Below.refl _ _).alloc (Nat.le_refl _) _⟩
  case round =>
    obtain ⟨k, m, hk, rfl, rfl, hm, hm0, hmn, hsl, hbel⟩ := hrel
    have HM := Lib.hid hm
    clear hm
    by_cases hlt : k < s
    · have q0 : 0 ≤ m / 256 := by omega
      have q1 : m / 256 ≤ m := by omega
      have hown := World.ownsRow_lit (e := 5) (size := 1) (base := w.heap.size) wr #[.int .u8 (m % 256)] 1 hbel.size (by unfold maxLen; omega) rfl
      have hsl' := hsl.keep (More.alloc wr (.cells #[.int .u8 (m % 256)] 5))
      have hlen := bys_length n k
      have c1 : ([m % 256].length + (bys n k).length) * 1 ≤ 140737488355328 := by rw [hlen]; simp; omega
      have c3 : w.heap.size ≤ (wr.alloc (.cells #[.int .u8 (m % 256)] 5)).heap.size := Nat.le_trans hbel.size (More.alloc wr _).size
      clear hlen
      go_wp2_with (at_builtin; refine wpList_append_sl _ rfl (.tmp 22) (.tmp 23) 28 rfl w.heap.size 5 i0 (.int .u8 0) 1 Try.underlying28 hi hz0 hz1 hz2 rfl _ .u8 [m % 256] rfl hown _ (bys n k) rfl hsl' c1 (Nat.le_refl 1) c3 ?_; intro v' w2 hown2 hgrow)
      have hbel2 := (hbel.alloc hbel.size (.cells #[.int .u8 (m % 256)] 5)).grown hgrow c3 (by intro q h; cases h; exact hbel.size)
      have heq : [m % 256] ++ bys n k = bys n (k + 1) := by
        rw [bys_succ]; unfold by8; rw [← HM.out]; rfl
      rw [heq] at hown2
      have hsl2 := SlI.of_owns hown2 (by rw [bys_length]; omega)
      have HN2 := Lib.hid (show m / 256 = n / 2 ^ (8 * (k + 1)) by rw [HM.out, div_step])
      clear heq hown2 hgrow hsl' hown hsl hbel
      go_wp2
      go_roundw
      case rel => exact ⟨k + 1, m / 256, by omega, by go_num, rfl, HN2.out, q0, by omega, hsl2, hbel2⟩
      case measure => simp [intOf]; omega
    · obtain rfl : k = s := by omega
      clear hlt hk
      go_wp2
      go_ret
      exact ⟨_, rfl, hsl, hbel⟩
/-- The same, the slice written out. -/
theorem Bytes_sl (n : Int) (s : Nat) (hn : U64 n) (h2 : s ≤ 8) (w : World) :
    Calls Try.prog 154 #[.int .u64 n, .int .i64 s] w fun e w' => ∃ oa cap, e = .returned (.slice oa s cap) ∧ SlI .u8 w' (.slice oa s cap) (bys n s) ∧ More w w' := by
  refine (Bytes_yes n s hn h2 w).mono ?_
  rintro e w' ⟨v, rfl, hs, hm⟩
  have hs' := hs
  obtain ⟨oa, cap, rfl, -⟩ := hs'
  rw [bys_length] at *
  exact ⟨oa, cap, rfl, hs, hm⟩
end Go.Proofs.Ytlnikmcimmnbmaa
