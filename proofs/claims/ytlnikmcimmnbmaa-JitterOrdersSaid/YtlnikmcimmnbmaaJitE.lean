/- Package jitter: a held thing is put into a row that has no room (slices.Insert). -/
import Derived.Test.YtlnikmcimmnbmaaJitD
namespace Go.Proofs.Ytlnikmcimmnbmaa
set_option linter.unusedSimpArgs false
set_option linter.unusedVariables false
open Go.RowKit Go.Lib
set_option maxRecDepth 100000

set_option maxHeartbeats 4000000 in
theorem Insert_grow (L : List Hd) (i : Nat) (hi : i < L.length) (h : Hd) (base : Nat) (w : World) (vb g cap : Nat) (ok : InsOK L h (.slice (some ⟨g, 0, none⟩) L.length cap) base w vb) (hroom : cap < L.length + 1) :
    Calls Try.prog 120 #[.slice (some ⟨g, 0, none⟩) L.length cap, .int .i64 i, .slice (some ⟨vb, 0, none⟩) 1 1] w (InsTo L i h (.slice (some ⟨g, 0, none⟩) L.length cap) base w) := by
  obtain ⟨row, hbase, hlen, hone, hne⟩ := ok
  obtain ⟨hxs, ⟨h0, _⟩ | ⟨g', cap', cur, e, hb, hg, hnc, hcm, hcs, htake⟩⟩ := row
  · cases h0
  cases e
  have hng : vb ≠ g := fun e => hne (by rw [e]; rfl)
  obtain ⟨i0, hi0, hz0, hz1, hz2⟩ := info_parts (P := Try.prog) (e := 193) (z := .agg #[.int .i64 0, .int .i64 0, .int .i64 0]) (size := 3) (bytes := 24) (by kernel_rfl)
  have hcl : cur.toList.length = cap * 3 := by simpa using hcs
  obtain ⟨n, hn⟩ : ∃ n, L.length = n := ⟨_, rfl⟩
  have hcn : cap = n := by omega
  have hA : (hdC (L.take i)).length = i * 3 := by rw [hdC_len, List.length_take]; congr 1; omega
  have hX : (hdC (L.drop i)).length = (n - i) * 3 := by rw [hdC_len, List.length_drop, hn]
  have hcell : ∀ j u, (hdC L)[j]? = some u → w.cell? ⟨g, j, none⟩ = some u := by
    intro j u hu
    rw [cell_of_row w g _ cur _ (0, 0) hg]
    have hj : j < L.length * 3 := by rw [← hdC_len]; exact (List.getElem?_eq_some_iff.1 hu).1
    rw [← htake, List.getElem?_take, if_pos hj] at hu
    simpa using hu
  have holds : ∀ j u, (hdC (L.take i))[j]? = some u → w.cell? ((⟨g, 0, none⟩ : Addr).add j) = some u := by
    intro j u hu
    rw [Addr.add_lit, Nat.zero_add]
    refine hcell j u ?_
    conv => lhs; rw [← List.take_append_drop i L, hdC_app]
    rw [List.getElem?_append_left (List.getElem?_eq_some_iff.1 hu).1]
    exact hu
  have hsrc : ∀ j u, (hdC (L.drop i))[j]? = some u → w.cell? ((⟨g, i * 3, none⟩ : Addr).add j) = some u := by
    intro j u hu
    rw [Addr.add_lit]
    refine hcell _ u ?_
    conv => lhs; rw [← List.take_append_drop i L, hdC_app]
    rw [List.getElem?_append_right (by omega), hA, Nat.add_sub_cancel_left]
    exact hu
  have hold : (Builtin.firstCells i0.size i (.slice (some ⟨g, 0, none⟩) i cap)).run Try.prog w.drew = .ok (hdC (L.take i)).toArray w.drew := by
    rw [hz1]
    exact run_firstCells_some (w := w.drew) 3 i ⟨g, 0, none⟩ i cap (hdC (L.take i)) hA holds
  have hik : i + (n + 1 - i) = n + 1 := by omega
  have hkk : (n : Int) + 1 - (i : Int) = ((n + 1 - i : Nat) : Int) := by omega
  obtain ⟨G, hG⟩ : ∃ G, G = grownCap w (n + 1) cap 193 := ⟨_, rfl⟩
  obtain ⟨ROW, hROW⟩ : ∃ ROW : Array Value, ROW = (hdC (L.take i)).toArray ++ Builtin.zeroCells (Value.agg #[.int .i64 0, .int .i64 0, .int .i64 0]).cells (n + 1 - i) ++ Builtin.zeroCells (Value.agg #[.int .i64 0, .int .i64 0, .int .i64 0]).cells (G - (n + 1)) := ⟨_, rfl⟩
  have hrz : ∀ ty, (Builtin.append_ #[187, 3] ty #[.slice (some ⟨g, 0, none⟩) i cap, .int .i64 ((n : Int) + 1 - (i : Int))]).run Try.prog w = .ok (.slice (some ⟨w.heap.size, 0, none⟩) (n + 1) G) (w.drew.alloc (.cells ROW 193)) := fun ty => by
    have h := Lib.run_append_grow_zeros (P := Try.prog) w 187 3 ty 193 i0 _ .i64 .i64 Try.underlying187 Try.underlying3 hi0 hz0 (some ⟨g, 0, none⟩) i cap (hdC (L.take i)) hold (n + 1 - i) (by omega) (by rw [hz1]; decide) (by omega) (by omega) (by rw [hz2]; omega) (by rw [hz2, hik]; exact growslice_fits (by omega) (by omega))
    rw [hik, ← hG, ← hROW] at h
    rw [hkk]
    exact h
  have hGn : n + 1 ≤ G := by rw [hG]; exact grownCap_ge w _ _ _
  have hG63 : G ≤ maxLen := by rw [hG]; exact grownCap_le_maxLen w (n + 1) cap 193 (by unfold maxLen; omega)
  obtain ⟨Z0, hZ0⟩ : ∃ Z0, (Builtin.zeroCells (Value.agg #[.int .i64 0, .int .i64 0, .int .i64 0]).cells (n + 1 - i)).toList = Z0 := ⟨_, rfl⟩
  have hZ0l : Z0.length = (n + 1 - i) * 3 := by rw [← hZ0, Array.length_toList, size_zeroCells]; rfl
  obtain ⟨R0, hR0⟩ : ∃ R0, (Builtin.zeroCells (Value.agg #[.int .i64 0, .int .i64 0, .int .i64 0]).cells (G - (n + 1))).toList = R0 := ⟨_, rfl⟩
  have hR0l : R0.length = (G - (n + 1)) * 3 := by rw [← hR0, Array.length_toList, size_zeroCells]; rfl
  have hRL : ROW.toList = hdC (L.take i) ++ (Z0 ++ R0) := by
    rw [hROW, Array.toList_append, Array.toList_append, hZ0, hR0, List.append_assoc]
  obtain ⟨Z, D, hZD, hZl⟩ : ∃ Z D, Z0 ++ R0 = Z ++ D ∧ Z.length = 3 := ⟨(Z0 ++ R0).take 3, (Z0 ++ R0).drop 3, (List.take_append_drop 3 _).symm, by rw [List.length_take, List.length_append]; omega⟩
  have hRl : ROW.toList.length = G * 3 := by rw [hRL, List.length_append, List.length_append, hA, hZ0l, hR0l]; omega
  obtain ⟨N, hN⟩ : ∃ N, w.heap.size = N := ⟨_, rfl⟩
  obtain ⟨W1, hW1⟩ : ∃ W1, W1 = w.drew.alloc (.cells ROW 193) := ⟨_, rfl⟩
  have hgN : W1.heap[N]? = some (.cells ROW 193 (0, 0)) := by rw [hW1]; exact blk_new2 (w := w.drew) hN.symm
  have hm1 : More w W1 := by rw [hW1]; exact (More.drewN w 1).al _
  have hr1 : ∀ ty dc, (Builtin.copy_ #[187, 187] ty #[.slice (some ⟨N, i * 3, none⟩) (n + 1 - i) dc, .slice (some ⟨vb, 0, none⟩) 1 1]).run Try.prog W1 = .ok (.int .i64 1) (W1.setRow N (putL ROW.toList (i * 3) (hd1 h)).toArray) := by
    intro ty dc
    have hmin : Nat.min 1 (n + 1 - i) = 1 := by simp only [Nat.min_def]; split <;> omega
    have := run_copy_row (P := Try.prog) W1 187 ty 193 i0 Try.underlying187 hi0 N (i * 3) (n + 1 - i) dc ROW hgN ⟨vb, 0, none⟩ 1 1 (hd1 h) (by rw [hmin, hz1]; rfl) (one_cells (blk_more hm1 hone)) (by rw [hd1_len, ← Array.length_toList, hRl]; omega) (hd1_one h)
    rw [hmin] at this
    rw [this]
    rfl
  obtain ⟨W2, hW2⟩ : ∃ W2, W2 = W1.setRow N (putL ROW.toList (i * 3) (hd1 h)).toArray := ⟨_, rfl⟩
  have hgN2 : W2.heap[N]? = some (.cells (putL ROW.toList (i * 3) (hd1 h)).toArray 193 (0, 0)) := by rw [hW2]; exact blk_setRow hgN _
  have hm2 : More w W2 := by rw [hW2]; exact (Away.setRow W1 N _).to_more hm1 (fun k hk => by omega)
  have hl2 : (putL ROW.toList (i * 3) (hd1 h)).length = G * 3 := by rw [putL_len (by rw [hd1_len, hRl]; omega), hRl]
  have hr2 : ∀ ty dc sc, (Builtin.copy_ #[187, 187] ty #[.slice (some ⟨N, (i + 1) * 3, none⟩) (n - i) dc, .slice (some ⟨g, i * 3, none⟩) (n - i) sc]).run Try.prog W2.drew = .ok (.int .i64 ((n - i : Nat) : Int)) (W2.drew.setRow N (putL (putL ROW.toList (i * 3) (hd1 h)) ((i + 1) * 3) (hdC (L.drop i))).toArray) := by
    intro ty dc sc
    have hmin : Nat.min (n - i) (n - i) = n - i := Nat.min_self _
    have := run_copy_row (P := Try.prog) W2.drew 187 ty 193 i0 Try.underlying187 hi0 N ((i + 1) * 3) (n - i) dc _ hgN2 ⟨g, i * 3, none⟩ (n - i) sc (hdC (L.drop i)) (by rw [hmin, hz1, hX]) (by
      intro j u hu
      have := hsrc j u hu
      rw [Addr.add_lit] at this ⊢
      show W2.cell? _ = _
      rw [hm2.cells g _ (lt_of_block hg)]
      exact this) (by rw [List.size_toArray, hl2, hX]; omega) (hdC_one _)
    rw [hmin] at this
    rw [this]
    rfl
  have HFIN : Hid (InsTo L i h (.slice (some ⟨g, 0, none⟩) L.length cap) base w (.returned (.slice (some ⟨N, 0, none⟩) (n + 1) G)) (W2.drew.setRow N (putL (putL ROW.toList (i * 3) (hd1 h)) ((i + 1) * 3) (hdC (L.drop i))).toArray)) := Lib.hid (by
    have hll : (L.take i ++ h :: L.drop i).length = n + 1 := by rw [List.length_append, List.length_cons, List.length_take, List.length_drop]; omega
    have hm3 : More w (W2.drew.setRow N (putL (putL ROW.toList (i * 3) (hd1 h)) ((i + 1) * 3) (hdC (L.drop i))).toArray) := (Away.setRow W2.drew N _).to_more (hm2.trans (More.drewN W2 1)) (fun k hk => by omega)
    refine ⟨_, rfl, ⟨by rw [hdC_len], Or.inr ⟨N, G, _, by rw [hll], by omega, blk_setRow (w := W2.drew) hgN2 _, by omega, hG63, ?_, ?_⟩⟩, Away.of_more hm3, Or.inr (by rw [hN]; rfl)⟩
    · rw [List.size_toArray, putL_len (by rw [hl2, hX]; omega), hl2]
    · have := put_two' (A := hdC (L.take i)) (Z := Z) (D := D) (X := hdC (L.drop i)) (V := hd1 h) (by rw [hZl]; rfl)
      rw [hd1_len, hA, ← hZD, ← hRL, show i * 3 + 3 = (i + 1) * 3 by omega] at this
      rw [hll, ← hn]
      simp only [this]
      exact ins_take hi)
  rw [hN, ← hW1] at hrz
  rw [← hW2] at hr1
  generalize W2.drew.setRow N (putL (putL ROW.toList (i * 3) (hd1 h)) ((i + 1) * 3) (hdC (L.drop i))).toArray = W3 at *
  have hin : i < n := by omega
  rw [hn] at HFIN ⊢
  have HRZ := Lib.hid hrz
  have HR1 := Lib.hid hr1
  have HR2 := Lib.hid hr2
  have mixed : Try.prog.follows Departure.mixedOrders = true := by kernel_rfl
  have q1 : ¬ ((i : Int) = (n : Int)) := by omega
  have hw1 : IntKind.i64.wrap ((i : Int) + 1) = (i : Int) + 1 := by rw [IntKind.wrap_i64]; omega
  have hb1 : (0 : Int) ≤ (i : Int) + 1 := by omega
  have htn : ((i : Int) + 1).toNat = i + 1 := by omega
  have q2 : (i : Int) ≤ (n : Int) := by omega
  have q3 : (cap : Int) < (n : Int) + 1 := by omega
  have q4 : (n : Int) ≤ 1000 := by omega
  have q5 : (i : Int) + 1 ≤ (n : Int) + 1 := by omega
  have q6 : ¬ cap = i := by omega
  have q7 : ¬ G = i := by omega
  have q8 : ¬ G = i + 1 := by omega
  have q9 : (i : Int) ≤ (n : Int) + 1 := by omega
  have q10 : (i : Int) ≤ (cap : Int) := by omega
  have hG63' : (G : Int) ≤ 9223372036854775807 := by unfold maxLen at hG63; omega
  have hG1 : (n : Int) + 1 ≤ (G : Int) := by omega
  clear hrz hr1 hr2 hcl hX hgN hgN2 hm1 hm2 hl2 hone hg hcs htake hxs hi0 hz0 hz1 hz2 hZD hA hW1 hW2 hne hnc hlen hcm hcell holds hsrc hold hG hROW hRL hRl hZ0 hR0 hZ0l hR0l hkk hik hG63 hcn
  go_enter Try.func120, Try.ntmps120
  go_wp2_with (at_builtin; refine Lib.wpList_append_run _ rfl _ _ _ _ rfl _ _ rfl rfl _ _ (HRZ.out _) ?_; have hr1 := HR1.out)
  go_region_law_o (refine step_copy_runJ rfl (.tmp 50) (.tmp 53) 187 187 rfl _ _ (by simp [Act.eval, Act.put]) (by simp [Act.eval, Act.put]) (HR2.out _ (G - (i + 1)) (cap - i)) ?_)
  go_wp2
  go_ret
  exact HFIN.out
end Go.Proofs.Ytlnikmcimmnbmaa
