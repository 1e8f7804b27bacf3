/- The walk of the law SeenKnows. -/
import Derived.Test.YtiifoobkmojdcaaSeenL
import Derived.Test.YtiifoobkmojdcaaPlainD
import Derived.Test.YtiifoobkmojdcaaFrame
namespace Go.Proofs.Ytiifoobkmojdcaa
open Go.RowKit
set_option maxRecDepth 100000

theorem take_one (l : List Int) (j : Nat) (h : j < l.length) : l.take (j + 1) = l.take j ++ [l.getD j 0] := by
  rw [List.take_succ_eq_append_getElem h]
  simp [List.getD_eq_getElem?_getD, h]
theorem wins_zero (l : List Int) (h : 0 < l.length) : wins (l.take (0 + 1)) = (l.getD 0 0, 1) := by
  rw [take_one l 0 h]; rfl
theorem wins_next (l : List Int) (j : Nat) (h : j < l.length) (h0 : j ≠ 0) : wins (l.take (j + 1)) = mark (wins (l.take j)).1 (wins (l.take j)).2 (l.getD j 0) := by
  rw [take_one l j h]
  refine wins_snoc _ _ fun e => ?_
  have := congrArg List.length e
  rw [List.length_take, List.length_nil] at this; omega
theorem Mid_high (l : List Int) (j : Nat) (h0 : j ≠ 0) (hj : j ≤ l.length) (h : ∀ k, k < j → Mid (l.getD k 0)) : Mid (wins (l.take j)).1 := by
  have hne : l.take j ≠ [] := by
    intro e; have := congrArg List.length e; rw [List.length_take, List.length_nil] at this; omega
  rw [wins_high _ hne]
  have : ∀ m : List Int, (∀ x ∈ m, Mid x) → m ≠ [] → Mid (top m) := by
    intro m
    refine snoc_ind (P := fun m => (∀ x ∈ m, Mid x) → m ≠ [] → Mid (top m)) (fun _ h => absurd rfl h) (fun m x ih hm _ => ?_) m
    by_cases hm0 : m = []
    · subst hm0; simpa [top, topTo] using hm x (by simp)
    · rw [top_snoc m x hm0]
      have h1 := ih (fun y hy => hm y (List.mem_append_left _ hy)) hm0
      have h2 := hm x (by simp)
      unfold Mid at *; omega
  refine this _ (fun x hx => ?_) hne
  obtain ⟨i, hi, rfl⟩ := List.getElem_of_mem hx
  rw [List.length_take] at hi
  have hi2 : i < l.length := by omega
  have := h i (by omega)
  simpa [List.getD_eq_getElem?_getD, hi2] using this

set_option maxHeartbeats 400000 in
theorem SeenKnows_main (v : Value) (l : List Int) (n : Int) (w : World) (hv : SlI .i64 w v l) (hx : ∀ i, I64 (l.getD i 0)) (hn : Mid n) (h0 : 0 < l.length) (h100 : l.length ≤ 100) :
    Calls Try.prog 4 #[v, .int .i64 n] w fun e w' => e = .returned (.bool true) ∧ More w w' := by
  obtain ⟨oa, cap, rfl, hl, hc, hcap, _, _⟩ := hv
  obtain ⟨n1, n2⟩ := hn
  obtain ⟨b, off, rfl, hb, hc0⟩ := hc 0 h0
  have HC := Lib.hid hc
  have HX := Lib.hid hx
  clear hc hx
  have e0 : ((l.length : Int) == 0) = false := by rw [beq_eq_false_iff_ne]; omega
  go_enter Try.func4, Try.ntmps4
  go_wp2_with (go_at_call 15; refine (awake11 _).mono ?_; rintro e w1 ⟨rfl, hm1⟩; have hb1 := Nat.lt_of_lt_of_le hb hm1.size; have hc1 : w1.cell? ⟨b, off, none⟩ = some (.int .i64 (l.getD 0 0)) := (hm1.cells b (off + 0) hb).trans hc0)
  go_loopw [6, 41] (fun tp i wr => ∃ j : Nat, j ≤ l.length ∧ i = .int .i64 j ∧ tp = .int .i64 (topTo l j) ∧ (∀ k, k < j → Mid (l.getD k 0)) ∧ wr.heap[w1.heap.size]? = some (.cells #[.int .i64 (wins (l.take j)).1, .int .u64 (wins (l.take j)).2] 24 (0, 0)) ∧ More w1 wr) (fun _ i _ => l.length - (intOf i).toNat)
  case atStart => exact ⟨0, by omega, rfl, by simp [topTo, List.getD_eq_getElem?_getD, h0], fun k hk => by omega, blk_new2 (by simp), More.alloc _ _⟩
  case round =>
    obtain ⟨j, hj, rfl, rfl, hmid, hO, hW⟩ := hrel
    have HMID := Lib.hid hmid
    clear hmid
    have c0 := blk_cell hO 0 rfl
    have c1 := blk_cell hO 1 rfl
    have f0 := blk_free hO 0
    have f1 := blk_free hO 1
    have ltO := blk_lt hO
    by_cases hlt : j < l.length
    · obtain ⟨b', off', e1, hb', hcj⟩ := HC.out j hlt
      simp only [Option.some.injEq, Addr.mk.injEq, and_true] at e1
      obtain ⟨rfl, rfl⟩ := e1
      have hcj' : wr.cell? ⟨b, off + j, none⟩ = some (.int .i64 (l.getD j 0)) := by rw [(hm1.trans hW).cells _ _ hb']; exact hcj
      have hx64 := HX.out j
      obtain ⟨x1, x2⟩ := hx64
      have HXJ := Lib.hid (show l[j] = l.getD j 0 by simp [List.getD_eq_getElem?_getD, hlt])
      by_cases m1 : -2305843009213693952 ≤ l[j]
      · by_cases m2 : l[j] ≤ 2305843009213693952
        · have HT := Lib.hid (topTo_succ l j hlt)
          have HM' := Lib.hid (show ∀ k, k < j + 1 → Mid (l.getD k 0) by
            intro k hk
            by_cases hkj : k = j
            · subst hkj; rw [← HXJ.out]; exact ⟨m1, m2⟩
            · exact HMID.out k (by omega))
          by_cases hj0 : j = 0
          · have HWS := Lib.hid (show wins (l.take (j + 1)) = (l[j], 1) by subst hj0; rw [wins_zero l h0, HXJ.out])
            have t0 : ((j : Int) == 0) = true := by simp [hj0]
            clear hj0
            by_cases hmx : topTo l j ≤ l[j]
            all_goals
              go_wp2_with (go_at_call 23; refine (First_any _ _).mono ?_; rintro e w3 ⟨rfl, hm3⟩; have k0 := blk_more hm3 hO; have c30 := blk_cell k0 0 rfl; have c31 := blk_cell k0 1 rfl; have f30 := blk_free k0 0; have f31 := blk_free k0 1)
              go_roundw
              case rel => exact ⟨j + 1, by omega, by go_num, congrArg (Value.int .i64) (by rw [HT.out, ← HXJ.out]; omega), HM'.out, blk_eq (blk_set (blk_set k0 0 _) 1 _) (by rw [HWS.out]; rfl), ((hW.trans hm3).st (Nat.le_refl _) _).st (Nat.le_refl _) _⟩
              case measure => simp [intOf]; omega
          · have HWS := Lib.hid (show wins (l.take (j + 1)) = mark (wins (l.take j)).1 (wins (l.take j)).2 l[j] by rw [wins_next l j hlt hj0, HXJ.out])
            have HMH := Lib.hid (Mid_high l j hj0 hj HMID.out)
            have HMJ : Hid (Mid l[j]) := ⟨m1, m2⟩
            have t0 : ((j : Int) == 0) = false := by rw [beq_eq_false_iff_ne]; omega
            clear hj0
            by_cases hmx : topTo l j ≤ l[j]
            all_goals
              go_wp2_with (go_at_call 17; refine (Mark_any _ _ _ HMH.out HMJ.out (wins_U64 _) _).mono ?_; rintro e w3 ⟨rfl, hm3⟩; have k0 := blk_more hm3 hO; have c30 := blk_cell k0 0 rfl; have c31 := blk_cell k0 1 rfl; have f30 := blk_free k0 0; have f31 := blk_free k0 1)
              go_roundw
              case rel => exact ⟨j + 1, by omega, by go_num, congrArg (Value.int .i64) (by rw [HT.out, ← HXJ.out]; omega), HM'.out, blk_eq (blk_set (blk_set k0 0 _) 1 _) (by rw [HWS.out]; rfl), ((hW.trans hm3).st (Nat.le_refl _) _).st (Nat.le_refl _) _⟩
              case measure => simp [intOf]; omega
        · go_wp2
          go_ret
          exact ⟨rfl, hm1.trans hW⟩
      · go_wp2
        go_ret
        exact ⟨rfl, hm1.trans hW⟩
    · obtain rfl : j = l.length := by omega
      clear hlt hj c0 c1 f0 f1
      rw [List.take_length] at hO
      have hne : l ≠ [] := List.length_pos_iff.1 h0
      obtain ⟨T, hT⟩ : ∃ T, T = topTo l l.length := ⟨_, rfl⟩
      rw [← hT]
      have hG : (wins l).1 = T := by rw [wins_high l hne, hT]; rfl
      obtain ⟨B, hB⟩ : ∃ B, B = (wins l).2 := ⟨_, rfl⟩
      rw [hG, ← hB] at hO
      have HMT : Hid (Mid T) := by have := Mid_high l l.length (by omega) (Nat.le_refl _) HMID.out; rw [List.take_length, hG] at this; exact this
      have HUB : Hid (U64 B) := hB ▸ wins_U64 l
      have HK := Lib.hid (fun m => wins_know l m hne)
      rw [hG, ← hB] at HK
      have HTop : Hid (top l = T) := hT.symm
      rw [HTop.out] at HK
      have HMANY := Lib.hid (wins_many l hne)
      rw [HTop.out, ← hB] at HMANY
      have HODD := Lib.hid (wins_odd l hne)
      rw [← hB] at HODD
      have ht1 := HMT.out.1
      have ht2 := HMT.out.2
      have c0 := blk_cell hO 0 rfl
      have c1 := blk_cell hO 1 rfl
      clear hT hG hB HTop
      have hMW := hm1.trans hW
      obtain ⟨W2, rfl⟩ : ∃ W, W = wr := ⟨_, rfl⟩
      go_wp2
      go_loopw [9, 10, 65] (fun cm mn i wx => ∃ j : Nat, j ≤ l.length ∧ i = .int .i64 j ∧ cm = .bool (cameTo l T n j) ∧ mn = .int .i64 (cntTo l T j) ∧ More W2 wx) (fun _ _ i _ => l.length - (intOf i).toNat)
      case atStart => exact ⟨0, by omega, rfl, rfl, rfl, More.refl _⟩
      case round =>
        obtain ⟨j, hj, rfl, rfl, rfl, hX⟩ := hrel
        have hOx := blk_more hX hO
        have d0 := blk_cell hOx 0 rfl
        have d1 := blk_cell hOx 1 rfl
        clear c0 c1
        have hcb := cntTo_bd l T j
        by_cases hlt : j < l.length
        · obtain ⟨b', off', e1, hb', hcj⟩ := HC.out j hlt
          simp only [Option.some.injEq, Addr.mk.injEq, and_true] at e1
          obtain ⟨rfl, rfl⟩ := e1
          have hcj' : wr.cell? ⟨b, off + j, none⟩ = some (.int .i64 (l.getD j 0)) := by rw [(hMW.trans hX).cells _ _ hb']; exact hcj
          obtain ⟨y1, y2⟩ := HMID.out j hlt
          have hxx : l[j] = l.getD j 0 := by simp [List.getD_eq_getElem?_getD, hlt]
          rw [← hxx] at y1 y2
          have HMJ : Hid (Mid l[j]) := ⟨y1, y2⟩
          have hkn := HK.out l[j]
          have hmem : l[j] ∈ l := List.getElem_mem hlt
          simp only [hmem, decide_true, Bool.true_and] at hkn
          have HKN := Lib.hid hkn
          have HC1 := Lib.hid (cameTo_succ l T n j hlt)
          have HN1 := Lib.hid (show cntTo l T (j + 1) = cntTo l T j + if T - 64 < l[j] ∧ l[j] ∉ l.take j then 1 else 0 by rw [hxx]; rfl)
          clear hkn hmem hxx
          obtain ⟨W3, rfl⟩ : ∃ W, W = wr := ⟨_, rfl⟩
          go_wp2
          go_loop [13, 74] (fun ag k => ∃ i : Nat, i ≤ j ∧ k = .int .i64 i ∧ ag = .bool (decide (l[j] ∈ l.take i))) (fun _ k => j - (intOf k).toNat)
          case atStart => exact ⟨0, by omega, rfl, by simp⟩
          case round =>
            obtain ⟨i, hi, rfl, rfl⟩ := hrel
            by_cases hlti : i < j
            · obtain ⟨b', off', e1, hb', hci⟩ := HC.out i (by omega)
              simp only [Option.some.injEq, Addr.mk.injEq, and_true] at e1
              obtain ⟨rfl, rfl⟩ := e1
              have hci' : W3.cell? ⟨b, off + i, none⟩ = some (.int .i64 (l.getD i 0)) := by rw [(hMW.trans hX).cells _ _ hb']; exact hci
              obtain ⟨z1, z2⟩ := HX.out i
              have hlt2 : i < l.length := by omega
              have HG2 := Lib.hid (mem_take_succ l l[j] i hlt2)
              by_cases hag : l[j] ∈ l.take i
              · have hagb : decide (l[j] ∈ l.take i) = true := by simpa using hag
                have HA := Lib.hid (show true = decide (l[j] ∈ l.take (i + 1)) by rw [HG2.out, hagb]; rfl)
                clear hag
                go_wp2
                go_round
                case rel => exact ⟨i + 1, by omega, by go_num, by rw [← HA.out]⟩
                case measure => simp [intOf]; omega
              · have hagb : decide (l[j] ∈ l.take i) = false := by simpa using hag
                have HA := Lib.hid (show (l[i] == l[j]) = decide (l[j] ∈ l.take (i + 1)) by rw [HG2.out, hagb]; simp)
                clear hag
                go_wp2
                go_round
                case rel => exact ⟨i + 1, by omega, by go_num, by rw [← HA.out]⟩
                case measure => simp [intOf]; omega
            · obtain rfl : j = i := by omega
              clear hlti hi
              by_cases hnear : T - 64 < l[j]
              · have hnb : decide (T - 64 < l[j]) = true := by simpa using hnear
                by_cases hag : l[j] ∈ l.take j
                · have hgb : decide (l[j] ∈ l.take j) = true := by simpa using hag
                  have KB := Lib.hid (show know T B l[j] = true by rw [HKN.out]; exact hnb)
                  have HN2 := Lib.hid (show cntTo l T j = cntTo l T (j + 1) by rw [HN1.out, if_neg (fun x => x.2 hag), Int.add_zero])
                  cases hcm : cameTo l T n j
                  all_goals
                    cases hen : (l[j] == n)
                  all_goals
                    go_wp2_with (go_at_call 19; refine (Has_any _ _ _ HMT.out HMJ.out HUB.out _).mono ?_; rintro e w5 ⟨rfl, hm5⟩; rw [KB.out])
                    go_roundw
                    case rel => exact ⟨j + 1, by omega, by go_num, congrArg Value.bool (by rw [HC1.out, hcm, hen, hnb]; rfl), congrArg (Value.int .i64) HN2.out, hX.trans hm5⟩
                    case measure => simp [intOf]; omega
                · have hgb : decide (l[j] ∈ l.take j) = false := by simpa using hag
                  have KB := Lib.hid (show know T B l[j] = true by rw [HKN.out]; exact hnb)
                  have HN2 := Lib.hid (show cntTo l T j + 1 = cntTo l T (j + 1) by rw [HN1.out, if_pos ⟨hnear, hag⟩])
                  cases hcm : cameTo l T n j
                  all_goals
                    cases hen : (l[j] == n)
                  all_goals
                    go_wp2_with (go_at_call 19; refine (Has_any _ _ _ HMT.out HMJ.out HUB.out _).mono ?_; rintro e w5 ⟨rfl, hm5⟩; rw [KB.out])
                    go_roundw
                    case rel => exact ⟨j + 1, by omega, by go_num, congrArg Value.bool (by rw [HC1.out, hcm, hen, hnb]; rfl), congrArg (Value.int .i64) HN2.out, hX.trans hm5⟩
                    case measure => simp [intOf]; omega
              · have hnb : decide (T - 64 < l[j]) = false := by simpa using hnear
                by_cases hag : l[j] ∈ l.take j
                · have hgb : decide (l[j] ∈ l.take j) = true := by simpa using hag
                  have KB := Lib.hid (show know T B l[j] = false by rw [HKN.out]; exact hnb)
                  have HN2 := Lib.hid (show cntTo l T j = cntTo l T (j + 1) by rw [HN1.out, if_neg (fun x => hnear x.1), Int.add_zero])
                  cases hcm : cameTo l T n j
                  all_goals
                    cases hen : (l[j] == n)
                  all_goals
                    go_wp2_with (go_at_call 19; refine (Has_any _ _ _ HMT.out HMJ.out HUB.out _).mono ?_; rintro e w5 ⟨rfl, hm5⟩; rw [KB.out])
                    go_roundw
                    case rel => exact ⟨j + 1, by omega, by go_num, congrArg Value.bool (by rw [HC1.out, hcm, hen, hnb]; rfl), congrArg (Value.int .i64) HN2.out, hX.trans hm5⟩
                    case measure => simp [intOf]; omega
                · have hgb : decide (l[j] ∈ l.take j) = false := by simpa using hag
                  have KB := Lib.hid (show know T B l[j] = false by rw [HKN.out]; exact hnb)
                  have HN2 := Lib.hid (show cntTo l T j = cntTo l T (j + 1) by rw [HN1.out, if_neg (fun x => hnear x.1), Int.add_zero])
                  cases hcm : cameTo l T n j
                  all_goals
                    cases hen : (l[j] == n)
                  all_goals
                    go_wp2_with (go_at_call 19; refine (Has_any _ _ _ HMT.out HMJ.out HUB.out _).mono ?_; rintro e w5 ⟨rfl, hm5⟩; rw [KB.out])
                    go_roundw
                    case rel => exact ⟨j + 1, by omega, by go_num, congrArg Value.bool (by rw [HC1.out, hcm, hen, hnb]; rfl), congrArg (Value.int .i64) HN2.out, hX.trans hm5⟩
                    case measure => simp [intOf]; omega
        · obtain rfl : j = l.length := by omega
          clear hlt hj
          have hbodd : (B % 2 == 1) = true := by rw [HODD.out]; rfl
          have HKN := Lib.hid (show know T B n = cameTo l T n l.length by rw [HK.out n]; unfold cameTo; rw [List.take_length])
          have HMN : Hid (Mid n) := ⟨n1, n2⟩
          have u1 := HUB.out.1
          have u2 := HUB.out.2
          obtain ⟨W3, rfl⟩ : ∃ W, W = wr := ⟨_, rfl⟩
          go_wp2_with (first | (go_at_call 19; refine (Has_any _ _ _ HMT.out HMN.out HUB.out _).mono ?_; rintro e w5 ⟨rfl, hm5⟩; rw [HKN.out]; have k5 := blk_more hm5 hOx; have d50 := blk_cell k5 0 rfl; have d51 := blk_cell k5 1 rfl) | (go_at_call 21; refine (Many_any _ _ HUB.out _).mono ?_; rintro e w6 ⟨rfl, hm6⟩; rw [HMANY.out]))
          go_ret
          exact ⟨rfl, ((hMW.trans hX).trans hm5).trans hm6⟩

theorem SeenKnows_law (v : Value) (l : List Int) (n : Int) (w : World) (hv : SlI .i64 w v l) (hx : ∀ x ∈ l, (Lit.int .i64 x).wf = true) (hn : I64 n) :
    Calls Try.prog 4 #[v, .int .i64 n] w fun e w' => e = .returned (.bool true) ∧ More w w' := by
  have hx' : ∀ i, I64 (l.getD i 0) := by
    intro i
    rw [List.getD_eq_getElem?_getD]
    by_cases hi : i < l.length
    · rw [List.getElem?_eq_getElem hi, Option.getD_some]
      exact bounds_i64 (hx _ (List.getElem_mem hi))
    · rw [List.getElem?_eq_none (by omega)]; exact (by decide : I64 0)
  by_cases h0 : 0 < l.length
  · by_cases h1 : l.length ≤ 100
    · by_cases h2 : Mid n
      · exact SeenKnows_main v l n w hv hx' h2 h0 h1
      · obtain ⟨n1, n2⟩ := hn
        obtain ⟨oa, cap, rfl, hl, _, _, _, _⟩ := hv
        have e0 : ((l.length : Int) == 0) = false := by rw [beq_eq_false_iff_ne]; omega
        clear hx hx'
        unfold Mid at h2
        by_cases h3 : -2305843009213693952 ≤ n
        · have h4 : 2305843009213693952 < n := by omega
          clear h2
          go_enter Try.func4, Try.ntmps4
          go_wp2_with (go_at_call 15; refine (awake11 _).mono ?_; rintro e w1 ⟨rfl, hm1⟩)
          go_ret
          exact ⟨rfl, hm1⟩
        · clear h2
          go_enter Try.func4, Try.ntmps4
          go_wp2_with (go_at_call 15; refine (awake11 _).mono ?_; rintro e w1 ⟨rfl, hm1⟩)
          go_ret
          exact ⟨rfl, hm1⟩
    · obtain ⟨oa, cap, rfl, hl, _, _, _, _⟩ := hv
      have e0 : ((l.length : Int) == 0) = false := by rw [beq_eq_false_iff_ne]; omega
      clear hx hx'
      go_enter Try.func4, Try.ntmps4
      go_wp2_with (go_at_call 15; refine (awake11 _).mono ?_; rintro e w1 ⟨rfl, hm1⟩)
      go_ret
      exact ⟨rfl, hm1⟩
  · obtain ⟨oa, cap, rfl, hl, _, _, _, _⟩ := hv
    have e0 : ((l.length : Int) == 0) = true := by rw [beq_iff_eq]; omega
    clear hx hx'
    go_enter Try.func4, Try.ntmps4
    go_wp2_with (go_at_call 15; refine (awake11 _).mono ?_; rintro e w1 ⟨rfl, hm1⟩)
    go_ret
    exact ⟨rfl, hm1⟩

end Go.Proofs.Ytiifoobkmojdcaa
