/- Contracts of package book: Owe, Settle. -/
import Derived.Test.YtmhkjamibcdcdaaBookA
namespace Go.Proofs.Ytmhkjamibcdcdaa
open Go.RowKit
set_option maxRecDepth 100000

def oweB (m : Bk) (k : Int × Int) : Bk × Int := if 0 ≤ k.1 ∧ k.1 < 6 ∧ 0 ≤ k.2 then (if (mget m k).isSome then (m, 6) else (mput m k 0, 0)) else (m, 1)
def settleB (m : Bk) (k : Int × Int) (f : Int) : Bk × Int := if 1 ≤ f ∧ f ≤ 8 then (if (mget m k).isSome then (if (mget m k).getD 0 = 0 then (mput m k f, 0) else (m, 6)) else (m, 5)) else (m, 1)
theorem mput_mem {K V : Type} [DecidableEq K] {k : K} {v : V} : ∀ {m : List (K × V)} {p : K × V}, p ∈ mput m k v → p ∈ m ∨ p = (k, v)
  | [], p, h => by simp [mput] at h; exact Or.inr h
  | (a, b) :: l, p, h => by
    unfold mput at h
    split at h
    · rcases List.mem_cons.1 h with h | h
      · exact Or.inr h
      · exact Or.inl (List.mem_cons_of_mem _ h)
    · rcases List.mem_cons.1 h with h | h
      · exact Or.inl (by rw [h]; exact List.mem_cons_self)
      · rcases mput_mem h with h | h
        · exact Or.inl (List.mem_cons_of_mem _ h)
        · exact Or.inr h
theorem BookAt.put {w w' : World} {B b : Nat} {m : Bk} (h : BookAt w B b m) (a : Away (fun x => x = b) w w') {k : Int × Int} {f : Int} (hf : 0 ≤ f ∧ f ≤ 8) (hm : MapAt w' b ke2 (Value.int .i64) (mput m k f)) : BookAt w' B b (mput m k f) :=
  ⟨a.blk h.blk h.ne, hm, fun p hp => by
    rcases mput_mem hp with hp | rfl
    · exact h.ok p hp
    · exact hf⟩
set_option maxHeartbeats 1000000 in
theorem BOwe {w : World} {B b : Nat} {m : Bk} (h : BookAt w B b m) (k : Int × Int) :
    Calls Try.prog 29 #[.pointer (some ⟨B, 0, none⟩), .agg #[.int .i64 k.1, .int .i64 k.2]] w fun e w' => e = .returned (.int .i64 (oweB m k).2) ∧ BookAt w' B b (oweB m k).1 ∧ Away (fun x => x = b) w w' := by
  have h1 := h.more (More.alloc w (.cells #[.int .i64 k.1, .int .i64 k.2] 54))
  have c0 := blk_cell h1.blk 0 (v := .map (some b)) rfl
  have q := h1.look k
  have H1 := Lib.hid h1
  clear h1 h
  have hways : k.1 < 0 ∨ (¬ k.1 < 0 ∧ 6 ≤ k.1) ∨ (¬ k.1 < 0 ∧ ¬ 6 ≤ k.1 ∧ k.2 < 0) ∨ (¬ k.1 < 0 ∧ ¬ 6 ≤ k.1 ∧ ¬ k.2 < 0) := by omega
  rcases hways with g1 | ⟨g1, g2⟩ | ⟨g1, g2, g3⟩ | ⟨g1, g2, g3⟩
  · have ho : oweB m k = (m, 1) := by unfold oweB; rw [if_neg (by omega)]
    have HO := Lib.hid ho
    clear ho q
    go_enter Try.func29, Try.ntmps29
    go_wp2
    go_ret
    rw [HO.out]
    exact ⟨rfl, H1.out, Away.of_more (More.alloc _ _)⟩
  · have ho : oweB m k = (m, 1) := by unfold oweB; rw [if_neg (by omega)]
    have HO := Lib.hid ho
    clear ho q
    go_enter Try.func29, Try.ntmps29
    go_wp2
    go_ret
    rw [HO.out]
    exact ⟨rfl, H1.out, Away.of_more (More.alloc _ _)⟩
  · have ho : oweB m k = (m, 1) := by unfold oweB; rw [if_neg (by omega)]
    have HO := Lib.hid ho
    clear ho q
    go_enter Try.func29, Try.ntmps29
    go_wp2
    go_ret
    rw [HO.out]
    exact ⟨rfl, H1.out, Away.of_more (More.alloc _ _)⟩
  · cases hs : (mget m k).isSome with
    | true =>
      have ho : oweB m k = (m, 6) := by unfold oweB; rw [if_pos (by omega), hs]; rfl
      have HO := Lib.hid ho
      simp only [hs] at q
      clear ho hs
      go_enter Try.func29, Try.ntmps29
      go_wp2
      refine wp_region_quiet_lit (by kernel_rfl) (by kernel_rfl) ?_
      repeat (go_big_quiet_step (fail))
      refine wpQuiet_nil ?_
      intro _ hw'
      obtain ⟨nq, rfl⟩ := hw'
      go_wp2
      go_ret
      rw [HO.out]
      exact ⟨rfl, H1.out.more (More.drewN _ _), Away.of_more ((More.alloc _ _).dr _)⟩
    | false =>
      have ho : oweB m k = (mput m k 0, 0) := by unfold oweB; rw [if_pos (by omega), hs]; rfl
      have HO := Lib.hid ho
      simp only [hs] at q
      clear ho hs
      go_enter Try.func29, Try.ntmps29
      go_wp2
      refine wp_region_quiet_lit (by kernel_rfl) (by kernel_rfl) ?_
      repeat (go_big_quiet_step (fail))
      refine wpQuiet_nil ?_
      intro _ hw'
      obtain ⟨nq, rfl⟩ := hw'
      go_wp2_with fail
      have L0 : ∀ x : Later (w.alloc (.cells #[.int .i64 k.1, .int .i64 k.2] 54)), x.w'.cell? ⟨B, 0, none⟩ = some (.map (some b)) := fun x => blk_cell (blk_more x.h H1.out.blk) 0 rfl
      have L1 : ∀ x : Later (w.alloc (.cells #[.int .i64 k.1, .int .i64 k.2] 54)), x.w'.cell? ⟨w.heap.size, 0, none⟩ = some (.int .i64 k.1) := fun x => x.new 0 rfl
      have L2 : ∀ x : Later (w.alloc (.cells #[.int .i64 k.1, .int .i64 k.2] 54)), x.w'.cell? ⟨w.heap.size, 1, none⟩ = some (.int .i64 k.2) := fun x => x.new 1 rfl
      refine wp_region_num (w.alloc (.cells #[.int .i64 k.1, .int .i64 k.2] 54)) 5 [(0, false), (1, false), (2, false), (3, false), (4, false), (5, true)] (by kernel_rfl) (by kernel_rfl) ?_
      iterate 5 (refine num_quiet rfl rfl (later_mk (by repeat (first | exact More.refl _ | assumption | refine More.dr ?_ _ | refine More.al ?_ _ | refine More.st ?_ (by simp) _))) ?_; intro K hK; go_big_quiet_op; go_big_quiet_on)
      obtain ⟨w9, hr, hm, ha, _⟩ := (H1.out.map.more (More.drewN _ (nq + 1))).update keyKey Try.underlying136 k 0
      unfold ke2 at hr
      have HM := Lib.hid hm
      have HA := Lib.hid ha
      clear hm ha
      (refine num_end rfl rfl (by decide) ?_; intro K hK; unfold loud; go_simp)
      refine hK _ _ ?_
      clear hK K
      refine num_nil ?_
      go_wp2
      go_ret
      rw [HO.out]
      exact ⟨rfl, (H1.out.more (More.drewN _ (nq + 1))).put HA.out (by decide) HM.out, (Away.of_more ((More.alloc _ _).dr _)).trans HA.out⟩
theorem BSettled_yes (f : Int) (w : World) (h : 1 ≤ f ∧ f ≤ 8) : Calls Try.prog 75 #[.int .i64 f] w fun e w' => e = .returned (.bool true) ∧ w = w' := by
  obtain ⟨h1, h2⟩ := h
  go_enter Try.func75, Try.ntmps75
  go_wp2
  go_ret
  exact ⟨rfl, rfl⟩
theorem BSettled_no (f : Int) (w : World) (h : ¬ (1 ≤ f ∧ f ≤ 8)) : Calls Try.prog 75 #[.int .i64 f] w fun e w' => e = .returned (.bool false) ∧ w = w' := by
  have hw : f < 1 ∨ (¬ f < 1 ∧ 8 < f) := by omega
  clear h
  rcases hw with h1 | ⟨h1, h2⟩
  · go_enter Try.func75, Try.ntmps75
    go_wp2
    go_ret
    exact ⟨rfl, rfl⟩
  · go_enter Try.func75, Try.ntmps75
    go_wp2
    go_ret
    exact ⟨ret_bool (by simp; omega), rfl⟩
set_option maxHeartbeats 1000000 in
theorem BSettle {w : World} {B b : Nat} {m : Bk} (h : BookAt w B b m) (k : Int × Int) (f : Int) :
    Calls Try.prog 30 #[.pointer (some ⟨B, 0, none⟩), .agg #[.int .i64 k.1, .int .i64 k.2], .int .i64 f] w fun e w' => e = .returned (.int .i64 (settleB m k f).2) ∧ BookAt w' B b (settleB m k f).1 ∧ Away (fun x => x = b) w w' := by
  have h1 := h.more (More.alloc w (.cells #[.int .i64 k.1, .int .i64 k.2] 54))
  have c0 := blk_cell h1.blk 0 (v := .map (some b)) rfl
  have q := h1.look k
  have H1 := Lib.hid h1
  clear h1 h
  by_cases hf : 1 ≤ f ∧ f ≤ 8
  · have HF := Lib.hid hf
    clear hf
    cases hs : (mget m k).isSome with
    | false =>
      have ho : settleB m k f = (m, 5) := by unfold settleB; rw [if_pos HF.out, hs]; rfl
      have HO := Lib.hid ho
      simp only [hs] at q
      clear ho hs
      go_enter Try.func30, Try.ntmps30
      go_wp2_with (go_at_call 75; ((with_reducible refine (BSettled_yes f _ HF.out).mono ?_); rintro e w2 ⟨rfl, rfl⟩))
      refine wp_region_quiet_lit (by kernel_rfl) (by kernel_rfl) ?_
      repeat (go_big_quiet_step (fail))
      refine wpQuiet_nil ?_
      intro _ hw'
      obtain ⟨nq, rfl⟩ := hw'
      go_wp2
      go_ret
      rw [HO.out]
      exact ⟨rfl, H1.out.more (More.drewN _ _), Away.of_more ((More.alloc _ _).dr _)⟩
    | true =>
      by_cases hv : (mget m k).getD 0 = 0
      · have ho : settleB m k f = (mput m k f, 0) := by unfold settleB; rw [if_pos HF.out, if_pos hs, if_pos hv]
        have HO := Lib.hid ho
        simp only [hs, hv] at q
        clear ho hs hv
        go_enter Try.func30, Try.ntmps30
        go_wp2_with (go_at_call 75; ((with_reducible refine (BSettled_yes f _ HF.out).mono ?_); rintro e w2 ⟨rfl, rfl⟩))
        refine wp_region_quiet_lit (by kernel_rfl) (by kernel_rfl) ?_
        repeat (go_big_quiet_step (fail))
        refine wpQuiet_nil ?_
        intro _ hw'
        obtain ⟨nq, rfl⟩ := hw'
        go_wp2_with fail
        have L0 : ∀ x : Later (w.alloc (.cells #[.int .i64 k.1, .int .i64 k.2] 54)), x.w'.cell? ⟨B, 0, none⟩ = some (.map (some b)) := fun x => blk_cell (blk_more x.h H1.out.blk) 0 rfl
        have L1 : ∀ x : Later (w.alloc (.cells #[.int .i64 k.1, .int .i64 k.2] 54)), x.w'.cell? ⟨w.heap.size, 0, none⟩ = some (.int .i64 k.1) := fun x => x.new 0 rfl
        have L2 : ∀ x : Later (w.alloc (.cells #[.int .i64 k.1, .int .i64 k.2] 54)), x.w'.cell? ⟨w.heap.size, 1, none⟩ = some (.int .i64 k.2) := fun x => x.new 1 rfl
        refine wp_region_num (w.alloc (.cells #[.int .i64 k.1, .int .i64 k.2] 54)) 6 [(0, false), (1, false), (2, false), (3, false), (4, false), (5, false), (6, true)] (by kernel_rfl) (by kernel_rfl) ?_
        iterate 6 (refine num_quiet rfl rfl (later_mk (by repeat (first | exact More.refl _ | assumption | refine More.dr ?_ _ | refine More.al ?_ _ | refine More.st ?_ (by simp) _))) ?_; intro K hK; go_big_quiet_op; go_big_quiet_on)
        obtain ⟨w9, hr, hm, ha, _⟩ := (H1.out.map.more (More.drewN _ (nq + 1))).update keyKey Try.underlying136 k f
        unfold ke2 at hr
        have HM := Lib.hid hm
        have HA := Lib.hid ha
        clear hm ha
        (refine num_end rfl rfl (by decide) ?_; intro K hK; unfold loud; go_simp)
        refine hK _ _ ?_
        clear hK K
        refine num_nil ?_
        go_wp2
        go_ret
        rw [HO.out]
        exact ⟨rfl, (H1.out.more (More.drewN _ (nq + 1))).put HA.out (by have := HF.out; omega) HM.out, (Away.of_more ((More.alloc _ _).dr _)).trans HA.out⟩
      · have ho : settleB m k f = (m, 6) := by unfold settleB; rw [if_pos HF.out, if_pos hs, if_neg hv]
        have HO := Lib.hid ho
        simp only [hs] at q
        generalize (mget m k).getD 0 = fv at *
        have hne : (fv != 0) = true := by simpa using hv
        clear ho hs hv
        go_enter Try.func30, Try.ntmps30
        go_wp2_with (go_at_call 75; ((with_reducible refine (BSettled_yes f _ HF.out).mono ?_); rintro e w2 ⟨rfl, rfl⟩))
        refine wp_region_quiet_lit (by kernel_rfl) (by kernel_rfl) ?_
        repeat (go_big_quiet_step (fail))
        refine wpQuiet_nil ?_
        intro _ hw'
        obtain ⟨nq, rfl⟩ := hw'
        go_wp2
        go_ret
        rw [HO.out]
        exact ⟨rfl, H1.out.more (More.drewN _ _), Away.of_more ((More.alloc _ _).dr _)⟩
  · have ho : settleB m k f = (m, 1) := by unfold settleB; rw [if_neg hf]
    have HO := Lib.hid ho
    have HF := Lib.hid hf
    clear ho q hf
    go_enter Try.func30, Try.ntmps30
    go_wp2_with (go_at_call 75; ((with_reducible refine (BSettled_no f _ HF.out).mono ?_); rintro e w2 ⟨rfl, rfl⟩))
    go_ret
    rw [HO.out]
    exact ⟨rfl, H1.out, Away.of_more (More.alloc _ _)⟩
end Go.Proofs.Ytmhkjamibcdcdaa
