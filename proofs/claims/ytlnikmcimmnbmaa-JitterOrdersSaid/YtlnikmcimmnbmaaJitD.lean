/- Package jitter: a held thing is put into the midst of a row (slices.Insert). -/
import Derived.Test.YtlnikmcimmnbmaaJitC
namespace Go.Proofs.Ytlnikmcimmnbmaa
set_option linter.unusedSimpArgs false
set_option linter.unusedVariables false
open Go.RowKit Go.Lib
set_option maxRecDepth 100000

theorem take_drop3 {C : List Value} {L : List Hd} {i : Nat} (hi : i < L.length) (hC : C.take (L.length * 3) = hdC L) (hl : L.length * 3 ≤ C.length) :
    ∃ Z R, C = hdC (L.take i) ++ (Z ++ R) ∧ Z.length = 3 ∧ (hdC (L.take i)).length = i * 3 := by
  have hA : (hdC (L.take i)).length = i * 3 := by rw [hdC_len, List.length_take]; congr 1; omega
  have e : C.take (i * 3) = hdC (L.take i) := by
    have h1 : C.take (i * 3) = (C.take (L.length * 3)).take (i * 3) := by
      rw [List.take_take]; congr 1
      have : i * 3 ≤ L.length * 3 := Nat.mul_le_mul_right 3 (by omega)
      omega
    rw [h1, hC]
    conv => lhs; rw [← List.take_append_drop i L, hdC_app]
    rw [← hA, List.take_left]
  refine ⟨(C.drop (i * 3)).take 3, (C.drop (i * 3)).drop 3, ?_, ?_, hA⟩
  · rw [List.take_append_drop, ← e, List.take_append_drop]
  · have : i * 3 + 3 ≤ L.length * 3 := by
      have := Nat.mul_le_mul_right 3 (show i + 1 ≤ L.length from hi)
      omega
    rw [List.length_take, List.length_drop]; omega
theorem ins_take {L : List Hd} {i : Nat} {h : Hd} {D : List Value} (hi : i < L.length) :
    (hdC (L.take i) ++ (hd1 h ++ (hdC (L.drop i) ++ D))).take ((L.length + 1) * 3) = hdC (L.take i ++ h :: L.drop i) := by
  have e : hdC (L.take i ++ h :: L.drop i) = hdC (L.take i) ++ (hd1 h ++ hdC (L.drop i)) := by rw [hdC_app, hdC_cons]
  have hl : (hdC (L.take i ++ h :: L.drop i)).length = (L.length + 1) * 3 := by
    rw [hdC_len, List.length_append, List.length_cons, List.length_take, List.length_drop]; congr 1; omega
  rw [← hl]
  have : hdC (L.take i) ++ (hd1 h ++ (hdC (L.drop i) ++ D)) = hdC (L.take i ++ h :: L.drop i) ++ D := by rw [e]; simp only [List.append_assoc]
  rw [this, List.take_left]
theorem run_overlaps (w : World) (g vb cap o k lb cb : Nat) (cur vcur : Array Value) (hg : w.heap[g]? = some (.cells cur 193 (0, 0))) (hc : cur.size ≠ 0) (hv : w.heap[vb]? = some (.cells vcur 193 (0, 0))) (hne : vb ≠ g) :
    (callFunc 148 #[.slice (some ⟨vb, 0, none⟩) 1 1, .slice (some ⟨g, o, none⟩) lb cb]).run Try.prog w = .ok (.value (.bool false)) w := by
  rw [run_callFunc_extern Try.func148 (by kernel_rfl) (by kernel_rfl) (by kernel_rfl) (e := Extern.SlicesOverlaps.overlaps #[187, 187] #[4]) (by kernel_rfl),
    Lib.run_overlaps_apart w 187 4 193 Try.underlying187 3 (fun w => by kernel_rfl) ⟨vb, 0, none⟩ ⟨g, o, none⟩ 1 1 lb cb hne 193 193 vcur.size cur.size (by simp [World.shape?, hv]) (by simp [World.shape?, hg]) hc (blk_free hv 0) (blk_free hv _)]
  rfl
set_option maxHeartbeats 4000000 in
theorem Insert_shift (L : List Hd) (i : Nat) (hi : i < L.length) (h : Hd) (base : Nat) (w : World) (vb g cap : Nat) (ok : InsOK L h (.slice (some ⟨g, 0, none⟩) L.length cap) base w vb) (hroom : L.length + 1 ≤ cap) :
    Calls Try.prog 120 #[.slice (some ⟨g, 0, none⟩) L.length cap, .int .i64 i, .slice (some ⟨vb, 0, none⟩) 1 1] w (InsTo L i h (.slice (some ⟨g, 0, none⟩) L.length cap) base w) := by
  obtain ⟨row, hbase, hlen, hone, hne⟩ := ok
  obtain ⟨hxs, ⟨h0, _⟩ | ⟨g', cap', cur, e, hb, hg, hnc, hcm, hcs, htake⟩⟩ := row
  · cases h0
  cases e
  have hng : vb ≠ g := fun e => hne (by rw [e]; rfl)
  obtain ⟨i0, hi0, hz0, hz1, hz2⟩ := info_parts (P := Try.prog) (e := 193) (z := .agg #[.int .i64 0, .int .i64 0, .int .i64 0]) (size := 3) (bytes := 24) (by kernel_rfl)
  have hcl : cur.toList.length = cap * 3 := by simpa using hcs
  have hn3 : (L.length + 1) * 3 ≤ cap * 3 := Nat.mul_le_mul_right 3 hroom
  obtain ⟨Z, R, hCZ, hZ, hA⟩ := take_drop3 hi htake (by omega)
  have hX : (hdC (L.drop i)).length = (L.length - i) * 3 := by rw [hdC_len, List.length_drop]
  obtain ⟨n, hn⟩ : ∃ n, L.length = n := ⟨_, rfl⟩
  have hOV := fun (o lb cb : Nat) => run_overlaps w g vb cap o 0 lb cb cur _ hg (by omega) hone hng
  -- the first copy
  have hr1 : ∀ ty dc sc, (Builtin.copy_ #[187, 187] ty #[.slice (some ⟨g, (i + 1) * 3, none⟩) (n - i) dc, .slice (some ⟨g, i * 3, none⟩) (n + 1 - i) sc]).run Try.prog w.drew = .ok (.int .i64 ((n - i : Nat) : Int)) (w.drew.setRow g (putL cur.toList ((i + 1) * 3) (hdC (L.drop i))).toArray) := by
    intro ty dc sc
    have hmin : Nat.min (n + 1 - i) (n - i) = n - i := by simp only [Nat.min_def]; split <;> omega
    have := run_copy_row (P := Try.prog) w.drew 187 ty 193 i0 Try.underlying187 hi0 g ((i + 1) * 3) (n - i) dc cur hg ⟨g, i * 3, none⟩ (n + 1 - i) sc (hdC (L.drop i)) (by rw [hmin, hz1, hX, hn]) (by
      intro j u hu
      rw [Addr.add_lit]
      show w.cell? ⟨g, i * 3 + j, none⟩ = some u
      rw [cell_of_row w g _ cur _ (0, 0) hg]
      have hj : j < (L.length - i) * 3 := by rw [← hX]; exact (List.getElem?_eq_some_iff.1 hu).1
      have e : (hdC L)[i * 3 + j]? = some u := by
        conv => lhs; rw [← List.take_append_drop i L, hdC_app]
        rw [List.getElem?_append_right (by omega), hA, Nat.add_sub_cancel_left]
        exact hu
      rw [← htake, List.getElem?_take, if_pos (by omega)] at e
      simpa using e) (by rw [hX]; omega) (hdC_one _)
    rw [hmin] at this
    rw [this]
    rfl
  obtain ⟨W1, hW1⟩ : ∃ W1, W1 = w.drew.setRow g (putL cur.toList ((i + 1) * 3) (hdC (L.drop i))).toArray := ⟨_, rfl⟩
  have hg1 : W1.heap[g]? = some (.cells (putL cur.toList ((i + 1) * 3) (hdC (L.drop i))).toArray 193 (0, 0)) := by rw [hW1]; exact blk_setRow (w := w.drew) hg _
  have ha1 : Away (fun k => k = g) w W1 := by rw [hW1]; exact (show Away (fun k => k = g) w w.drew from Away.of_more (More.drewN w 1)).trans (Away.setRow w.drew g _)
  have hl1 : (putL cur.toList ((i + 1) * 3) (hdC (L.drop i))).length = cap * 3 := by rw [putL_len (by rw [hX, hcl]; omega), hcl]
  have hone1 := ha1.blk hone hng
  have hr2 : ∀ ty dc, (Builtin.copy_ #[187, 187] ty #[.slice (some ⟨g, i * 3, none⟩) (n + 1 - i) dc, .slice (some ⟨vb, 0, none⟩) 1 1]).run Try.prog W1 = .ok (.int .i64 1) (W1.setRow g (putL (putL cur.toList ((i + 1) * 3) (hdC (L.drop i))) (i * 3) (hd1 h)).toArray) := by
    intro ty dc
    have hmin : Nat.min 1 (n + 1 - i) = 1 := by simp only [Nat.min_def]; split <;> omega
    have := run_copy_row (P := Try.prog) W1 187 ty 193 i0 Try.underlying187 hi0 g (i * 3) (n + 1 - i) dc _ hg1 ⟨vb, 0, none⟩ 1 1 (hd1 h) (by rw [hmin, hz1]; rfl) (one_cells hone1) (by rw [List.size_toArray, hl1, hd1_len]; omega) (hd1_one h)
    rw [hmin] at this
    rw [this]
    rfl
  have HFIN : Hid (InsTo L i h (.slice (some ⟨g, 0, none⟩) L.length cap) base w (.returned (.slice (some ⟨g, 0, none⟩) (n + 1) cap)) (W1.setRow g (putL (putL cur.toList ((i + 1) * 3) (hdC (L.drop i))) (i * 3) (hd1 h)).toArray)) := Lib.hid (by
    have hll : (L.take i ++ h :: L.drop i).length = n + 1 := by rw [List.length_append, List.length_cons, List.length_take, List.length_drop]; omega
    refine ⟨_, rfl, ⟨by rw [hdC_len], Or.inr ⟨g, cap, _, by rw [hll], hb, blk_setRow hg1 _, by omega, hcm, ?_, ?_⟩⟩, (ha1.trans (Away.setRow W1 g _)).mono fun k hk => by subst hk; rfl, Or.inl rfl⟩
    · rw [List.size_toArray, putL_len (by rw [hl1, hd1_len]; omega), hl1]
    · have := put_two (A := hdC (L.take i)) (Z := Z) (D := R) (X := hdC (L.drop i)) (V := hd1 h) (by rw [hZ]; rfl)
      rw [hZ, hA, ← hCZ, show i * 3 + 3 = (i + 1) * 3 by omega] at this
      rw [hll, ← hn]
      simp only [this]
      exact ins_take hi)
  rw [← hW1] at hr1
  generalize W1.setRow g (putL (putL cur.toList ((i + 1) * 3) (hdC (L.drop i))) (i * 3) (hd1 h)).toArray = W2 at *
  rw [hn] at hroom hlen hnc HFIN ⊢
  have hin : i < n := by omega
  have HR1 := Lib.hid hr1
  have HR2 := Lib.hid hr2
  have mixed : Try.prog.follows Departure.mixedOrders = true := by kernel_rfl
  have q1 : ¬ ((i : Int) = (n : Int)) := by omega
  have hw1 : IntKind.i64.wrap ((i : Int) + 1) = (i : Int) + 1 := by rw [IntKind.wrap_i64]; omega
  have hb1 : (0 : Int) ≤ (i : Int) + 1 := by omega
  have htn : ((i : Int) + 1).toNat = i + 1 := by omega
  have q2 : (i : Int) ≤ (n : Int) := by omega
  have q3 : ¬ (cap : Int) < (n : Int) + 1 := by omega
  have q4 : (n : Int) ≤ 1000 := by omega
  have q5 : (i : Int) + 1 ≤ (n : Int) + 1 := by omega
  have q6 : ¬ cap = i := by omega
  have q7 : ¬ cap = i + 1 := by omega
  have q8 : (n : Int) + 1 ≤ (cap : Int) := by omega
  have q9 : (i : Int) ≤ (n : Int) + 1 := by omega
  have hc63 : (cap : Int) ≤ 9223372036854775807 := by unfold maxLen at hcm; omega
  clear hr1 hr2 hcl hn3 hX hg1 ha1 hl1 hone1 hone hg hcs htake hxs hi0 hz0 hz1 hz2 hCZ hZ hA hW1 hne hroom hnc hlen hcm
  go_enter Try.func120, Try.ntmps120
  go_wp2_with (simp only [hOV])
  go_region_law_o (refine step_copy_runJ rfl (.tmp 73) (.tmp 76) 187 187 rfl _ _ (by simp [Act.eval, Act.put]) (by simp [Act.eval, Act.put]) (HR1.out _ (cap - (i + 1)) (cap - i)) ?_)
  have hr2 := HR2.out
  go_wp2
  go_ret
  exact HFIN.out
end Go.Proofs.Ytlnikmcimmnbmaa
