/- Feedback messages: pairs of lost numbers; the kind of a chunk. -/
import Derived.Test.YtlnikmcimmnbmaaFeedB
import Derived.Deep.AppendLies
namespace Go.Proofs.Ytlnikmcimmnbmaa
set_option linter.unusedSimpArgs false
set_option linter.unusedVariables false
open Go.RowKit
set_option maxRecDepth 100000

def prC (l : List (Int × Int)) : List Value := l.flatMap fun p => [.int .u16 p.1, .int .u16 p.2]
theorem prC_snoc (l : List (Int × Int)) (p : Int × Int) : prC (l ++ [p]) = prC l ++ [.int .u16 p.1, .int .u16 p.2] := by simp [prC]
theorem prC_len (l : List (Int × Int)) : (prC l).length = l.length * 2 := by
  induction l with
  | nil => rfl
  | cons p l ih =>
    simp only [prC, List.flatMap_cons, List.length_append, List.length_cons, List.length_nil] at ih ⊢
    omega
theorem prC_at (is : List (Int × Int)) (q m : Int) : (prC (is ++ [(q, m)]))[is.length * 2]? = some (.int .u16 q) ∧ (prC (is ++ [(q, m)]))[is.length * 2 + 1]? = some (.int .u16 m) := by
  rw [prC_snoc, List.getElem?_append_right (by rw [prC_len]; omega), List.getElem?_append_right (by rw [prC_len]; omega), prC_len]
  constructor
  · rw [Nat.sub_self]; rfl
  · rw [show is.length * 2 + 1 - is.length * 2 = 1 by omega]; rfl
theorem prC_set (is : List (Int × Int)) (q m x : Int) : (prC (is ++ [(q, m)])).set (is.length * 2 + 1) (.int .u16 x) = prC (is ++ [(q, x)]) := by
  rw [prC_snoc, prC_snoc, List.set_append_right _ _ (by rw [prC_len]; omega), prC_len, show is.length * 2 + 1 - is.length * 2 = 1 by omega]
  rfl
theorem or_orb {m : Int} (h : U16 m) (k : Nat) (hk : k < 16) : bits .or .u16 m (IntKind.u16.wrap (2 ^ k)) = orb m k := by
  obtain ⟨h0, h1⟩ := h
  obtain ⟨N, rfl⟩ := Int.eq_ofNat_of_zero_le h0
  have hp : 2 ^ k < 65536 := Nat.pow_lt_pow_right (by decide) hk
  have e : IntKind.u16.wrap (2 ^ k) = ((2 ^ k : Nat) : Int) := by
    rw [IntKind.wrap_u16]
    have : ((2 : Int) ^ k) = ((2 ^ k : Nat) : Int) := by simp
    rw [this]
    generalize 2 ^ k = P at hp ⊢
    omega
  rw [e, u16_or_nat N (2 ^ k) (by omega) hp]
  unfold orb
  simp
theorem new_pair {w : World} {cs : Array Value} {t B : Nat} (hB : B = w.heap.size) : ∀ j u, cs.toList[j]? = some u → (w.alloc (.cells cs t)).cell? ((⟨B, 0, none⟩ : Addr).add j) = some u := by
  intro j u h
  have ea : (⟨B, 0, none⟩ : Addr).add j = ⟨B, j, none⟩ := by
    unfold Addr.add; split
    · rename_i h0; subst h0; rfl
    · simp
  rw [ea]
  exact new_cells hB j u h
theorem row_shape {w : World} {base e size n : Nat} {v : Value} {xs : List Value} (h : w.ownsRow base e size v n xs) : ∃ oa cap, v = .slice oa n cap ∧ (n : Int) ≤ 9223372036854775807 := by
  rcases h.2 with ⟨rfl, h0⟩ | ⟨g, cap, cur, rfl, _, _, hn, hm, _⟩
  · exact ⟨none, 0, by rw [h0], by omega⟩
  · exact ⟨_, cap, rfl, by unfold maxLen at hm; omega⟩
theorem row_form {w : World} {base e size n : Nat} {v : Value} {xs : List Value} (h : w.ownsRow base e size v n xs) (hn : 0 < n) : ∃ g cap, v = .slice (some ⟨g, 0, none⟩) n cap ∧ base ≤ g ∧ g < w.heap.size ∧ (n : Int) ≤ 9223372036854775807 := by
  rcases h.2 with ⟨rfl, h0⟩ | ⟨g, cap, cur, rfl, hb, hg, hnc, hm, _⟩
  · omega
  · exact ⟨g, cap, rfl, hb, lt_of_block hg, by unfold maxLen at hm; omega⟩
theorem row_ge' {w : World} {base e size n : Nat} {v : Value} {xs : List Value} (h : w.ownsRow base e size v n xs) {b : Nat} (hb : v.ownBlock = some b) : base ≤ b := by
  rcases h.2 with ⟨rfl, _⟩ | ⟨b', cap, cur, rfl, hb', _⟩
  · cases hb
  · obtain rfl : b' = b := by injection hb
    exact hb'
set_option maxHeartbeats 4000000 in
theorem Pairs_any (l : List Int) (v : Value) (w : World) (sl : SlI .u16 w v l) (hu : ∀ x ∈ l, U16 x) (hr : riseB l = true) (hl : l.length ≤ 100000) :
    Calls Try.prog 110 #[v] w fun e w' => ∃ v', e = .returned v' ∧ w'.ownsRow w.heap.size 179 2 v' (pairsF l).length (prC (pairsF l)) ∧ More w w' := by
  obtain ⟨i0, hi, hz0, hz1, hz2⟩ := info_parts (P := Try.prog) (e := 179) (z := .agg #[.int .u16 0, .int .u16 0]) (size := 2) (bytes := 4) (by kernel_rfl)
  have SL := Lib.hid sl
  have HU := Lib.hid hu
  have HI := Lib.hid (prI_all hu hr)
  obtain ⟨oa, cap, rfl, hl63, -⟩ := sl
  clear hu hr
  go_enter Try.func110, Try.ntmps110
  go_wp2
  go_loopw [3, 10] (fun v ix wr => ∃ j : Nat, j ≤ l.length ∧ ix = .int .i64 j ∧ wr.ownsRow w.heap.size 179 2 v (pairsF (l.take j)).length (prC (pairsF (l.take j))) ∧ More w wr) (fun _ ix _ => l.length - (intOf ix).toNat)
  case atStart => exact ⟨0, by omega, rfl, World.ownsRow_nil _ _ _ _, More.refl _⟩
  case round =>
    obtain ⟨j, hj, rfl, hrow, hm⟩ := hrel
    have HR := Lib.hid hrow
    have HM := Lib.hid hm
    by_cases hlt : j < l.length
    · obtain ⟨b, off, rfl, hb, c0⟩ := slI_cell SL.out j hlt
      have q0 := c0 _ hm
      have hlt2 : (j : Int) < (l.length : Int) := by omega
      have un := HU.out _ (getD_mem hlt)
      have HP := Lib.hid (HI.out j hj)
      have HS := Lib.hid (pairsF_succ l j hlt)
      have hpl : (pairsF (l.take j)).length ≤ j := by
        have h1 := (prF_len (pairsF (l.take j))).1
        rw [HP.out.flat, List.length_take] at h1
        omega
      generalize l.getD j 0 = n at *
      generalize pairsF (l.take j) = ps at *
      have UN := Lib.hid un
      clear c0 un hm
      by_cases hne : ps = []
      · subst hne
        obtain ⟨ov, cv, rfl, -⟩ := row_shape hrow
        have HS2 : Hid (pairsF (l.take (j + 1)) = [] ++ [(n, 0)]) := Lib.hid (by rw [HS.out]; unfold prStep; rw [if_neg (fun h => h.1 rfl)])
        have hrow0 := HR.out
        clear hrow
        go_wp2_with (at_builtin; refine wpList_append_own_at _ rfl (.tmp 44) (.tmp 47) 174 rfl w.heap.size 179 i0 (.agg #[.int .u16 0, .int .u16 0]) 2 4 Try.underlying174 hi hz0 hz1 hz2 rfl (by decide) _ 0 [] rfl (owns_more HR.out (More.alloc _ _)) ⟨wr.heap.size, 0, none⟩ 1 1 [.int .u16 n, .int .u16 0] rfl rfl (new_pair rfl) (by simp [Value.oneCell']) (by unfold maxLen; omega) (by decide) (HM.out.al _).size ?_; intro v5 w5 ho5 hg5 _ _; have HO := Lib.hid ho5; have HG := Lib.hid ((HM.out.al _).grown hg5 (HM.out.al _).size (fun z hz => row_ge' HR.out hz)); clear ho5 hg5)
        go_roundw
        case rel => exact ⟨j + 1, by omega, by go_num, by rw [HS2.out]; exact HO.out, HG.out⟩
        case measure => simp [intOf]; omega
      · obtain ⟨is, ⟨q, m⟩, rfl⟩ : ∃ is p, ps = is ++ [p] := ⟨ps.dropLast, ps.getLast hne, (List.dropLast_concat_getLast hne).symm⟩
        have hok := HP.out.ok (q, m) (by simp)
        obtain ⟨uq, um⟩ := hok
        simp only at uq um
        obtain ⟨k, hk⟩ : ∃ k, is.length = k := ⟨_, rfl⟩
        have hlk : (is ++ [(q, m)]).length = k + 1 := by simp [hk]
        rw [hlk] at hrow hpl
        obtain ⟨g, cap', rfl, hg1, hg2, -⟩ := row_form hrow (by omega)
        have cq : wr.cell? ⟨g, k * 2, none⟩ = some (.int .u16 q) := by rw [hrow.cellAt (k * 2) (by omega), ← hk]; exact (prC_at is q m).1
        have cm : wr.cell? ⟨g, k * 2 + 1, none⟩ = some (.int .u16 m) := by rw [hrow.cellAt (k * 2 + 1) (by omega), ← hk]; exact (prC_at is q m).2
        have zf := hrow.frozenAt (k * 2 + 1)
        have HR1 := Lib.hid hrow
        have HN := Lib.hid (fun w => Ahead_any q n w uq UN.out)
        have HK := Lib.hid hk
        have UM := Lib.hid um
        clear hne hrow hlk uq um hk HR
        have hk1 : (0 : Int) < ((k : Int) + 1) := by omega
        have HPJ : Hid (prJ (is ++ [(q, m)]) n ↔ 1 ≤ ahd q n ∧ ahd q n ≤ 16) := Lib.hid (by unfold prJ; rw [getLastD_snoc]; simp)
        by_cases hj2 : 1 ≤ ahd q n ∧ ahd q n ≤ 16
        · obtain ⟨f1, f2⟩ := hj2
          obtain ⟨t, ht⟩ : ∃ t : Nat, ahd q n = (t : Int) + 1 := ⟨(ahd q n - 1).toNat, by omega⟩
          have ht16 : t < 16 := by omega
          have HS2 : Hid (pairsF (l.take (j + 1)) = is ++ [(q, orb m t)]) := Lib.hid (by
            rw [HS.out]
            unfold prStep
            rw [if_pos (HPJ.out.2 ⟨f1, f2⟩), getLastD_snoc, List.dropLast_concat]
            simp only
            rw [ht]
            congr
            omega)
          have hor := or_orb UM.out t ht16
          have HT := Lib.hid ht
          rw [ht] at HN
          clear ht f1 f2 HPJ
          have t0 : (1 : Int) ≤ (t : Int) + 1 := by omega
          have t1 : (t : Int) + 1 ≤ 16 := by omega
          go_wp2_with (go_at_call 146; ((with_reducible refine (HN.out _).mono ?_); rintro e w3 ⟨rfl, rfl⟩))
          have d1 : ∀ x : Later wr, x.w'.cell? ⟨g, k * 2 + 1, none⟩ = some (.int .u16 m) := fun x => by rw [x.h.cells g _ hg2]; exact cm
          refine wp_region_num wr 10 [(0, false), (1, false), (2, false), (3, false), (4, false), (5, false), (6, false), (7, false), (8, true), (9, false), (10, true)] (by kernel_rfl) (by kernel_rfl) ?_
          iterate 8 (refine num_quiet rfl rfl (later_mk (by repeat (first | exact More.refl _ | assumption | refine More.dr ?_ _ | refine More.al ?_ _ | refine More.st ?_ (by simp) _))) ?_; intro K hK; go_big_quiet_op; go_big_quiet_on)
          (refine num_next rfl rfl ?_; intro K hK; unfold loud; go_simp)
          refine ⟨later_mk (by repeat (first | exact More.refl _ | assumption | refine More.dr ?_ _ | refine More.al ?_ _ | refine More.st ?_ (by simp) _)), hK _ _ ?_⟩
          clear hK K
          iterate 1 (refine num_quiet rfl rfl (later_mk (by repeat (first | exact More.refl _ | assumption | refine More.dr ?_ _ | refine More.al ?_ _ | refine More.st ?_ (by simp) _))) ?_; intro K hK; go_big_quiet_op; go_big_quiet_on)
          (refine num_end rfl rfl (by decide) ?_; intro K hK; unfold loud; go_simp)
          refine hK _ _ ?_
          clear hK K
          refine num_nil ?_
          have hst := (owns_more HR1.out (More.drewN wr 1)).stored (k * 2 + 1) (.int .u16 (orb m t))
          have HST : Hid (((wr.drewN 1).setCell ⟨g, k * 2 + 1, none⟩ (.int .u16 (orb m t))).ownsRow w.heap.size 179 2 (.slice (some ⟨g, 0, none⟩) (k + 1) cap') (k + 1) (prC (is ++ [(q, orb m t)]))) := Lib.hid (by
            have h9 := hst.1
            rw [← HK.out, prC_set] at h9
            rw [← HK.out]
            exact h9)
          have HMM := Lib.hid ((HM.out.dr 1).st (p := ⟨g, k * 2 + 1, none⟩) hg1 (.int .u16 (orb m t)))
          clear hst d1
          go_wp2
          go_roundw
          case rel => exact ⟨j + 1, by omega, by go_num, by rw [HS2.out]; simp only [List.length_append, List.length_cons, List.length_nil, HK.out]; exact HST.out, HMM.out⟩
          case measure => simp [intOf]; omega
        · have HS2 : Hid (pairsF (l.take (j + 1)) = (is ++ [(q, m)]) ++ [(n, 0)]) := Lib.hid (by
            rw [HS.out]
            unfold prStep
            rw [if_neg (fun h => hj2 (HPJ.out.1 h))])
          have hways : ahd q n < 1 ∨ (1 ≤ ahd q n ∧ 16 < ahd q n) := by omega
          clear hj2 HPJ
          generalize ahd q n = f at *
          have HLK : Hid ((is ++ [(q, m)]).length = k + 1) := Lib.hid (by simp [HK.out])
          rcases hways with f1 | ⟨f1, f2⟩
          all_goals
            go_wp2_with (first | (go_at_call 146; ((with_reducible refine (HN.out _).mono ?_); rintro e w3 ⟨rfl, rfl⟩)) | (at_builtin; refine wpList_append_own_at _ rfl (.tmp 44) (.tmp 47) 174 rfl w.heap.size 179 i0 (.agg #[.int .u16 0, .int .u16 0]) 2 4 Try.underlying174 hi hz0 hz1 hz2 rfl (by decide) _ (k + 1) (prC (is ++ [(q, m)])) rfl (owns_more HR1.out (More.alloc _ _)) ⟨wr.heap.size, 0, none⟩ 1 1 [.int .u16 n, .int .u16 0] rfl rfl (new_pair rfl) (by simp [Value.oneCell']) (by unfold maxLen; omega) (by omega) (HM.out.al _).size ?_; intro v5 w5 ho5 hg5 _ _; have HO := Lib.hid ho5; have HG := Lib.hid ((HM.out.al _).grown hg5 (HM.out.al _).size (fun z hz => row_ge' HR1.out hz)); clear ho5 hg5))
            go_roundw
            case rel => exact ⟨j + 1, by omega, by go_num, by rw [HS2.out, List.length_append, HLK.out, prC_snoc]; exact HO.out, HG.out⟩
            case measure => simp [intOf]; omega
    · obtain rfl : j = l.length := by omega
      rw [List.take_length] at hrow
      have HR2 := Lib.hid hrow
      have hlt2 : ¬ (l.length : Int) < (l.length : Int) := by omega
      clear hrow HR
      go_wp2
      go_ret
      exact ⟨_, rfl, HR2.out, HM.out⟩
end Go.Proofs.Ytlnikmcimmnbmaa
