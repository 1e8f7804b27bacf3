/- Feedback messages: do numbers rise; what a pair tells; the kind of a chunk. -/
import Derived.Test.YtlnikmcimmnbmaaFeedA
namespace Go.Proofs.Ytlnikmcimmnbmaa
set_option linter.unusedSimpArgs false
set_option linter.unusedVariables false
open Go.RowKit
set_option maxRecDepth 100000

theorem slI_cell {k : IntKind} {w : World} {oa : Option Addr} {n c : Nat} {l : List Int} (h : SlI k w (.slice oa n c) l) (i : Nat) (hi : i < l.length) : ∃ b off, oa = some ⟨b, off, none⟩ ∧ b < w.heap.size ∧ ∀ x, More w x → x.cell? ⟨b, off + i, none⟩ = some (.int k (l.getD i 0)) := by
  obtain ⟨oa', cap', e, _, h2, _⟩ := h
  cases e
  obtain ⟨b, off, e, hb, hc⟩ := h2 i hi
  exact ⟨b, off, e, hb, fun x m => by rw [m.cells b _ hb]; exact hc⟩
theorem getD_mem {l : List Int} {i : Nat} (h : i < l.length) : l.getD i 0 ∈ l := by
  rw [List.getD_eq_getElem?_getD, List.getElem?_eq_getElem h]; exact List.getElem_mem h
set_option maxHeartbeats 1000000 in
theorem Rising_any (l : List Int) (v : Value) (w : World) (sl : SlI .u16 w v l) (hu : ∀ x ∈ l, U16 x) :
    Calls Try.prog 109 #[v] w fun e w' => e = .returned (.bool (riseB l)) ∧ More w w' := by
  have SL := Lib.hid sl
  have HU := Lib.hid hu
  obtain ⟨oa, cap, rfl, hl63, -⟩ := sl
  clear hu
  go_enter Try.func109, Try.ntmps109
  go_wp2
  go_loopw [3] (fun ix wr => ∃ j : Nat, 1 ≤ j ∧ (j ≤ l.length ∨ j = 1) ∧ ix = .int .i64 j ∧ (∀ k, k + 1 < j → 0 < ahd (l.getD k 0) (l.getD (k + 1) 0)) ∧ More w wr) (fun ix _ => l.length - (intOf ix).toNat)
  case atStart => exact ⟨1, by omega, Or.inr rfl, rfl, fun k hk => by omega, More.refl _⟩
  case round =>
    obtain ⟨j, h1, hj, rfl, hall, hm⟩ := hrel
    have HALL := Lib.hid hall
    by_cases hlt : j < l.length
    · obtain ⟨i, rfl⟩ : ∃ i, j = i + 1 := ⟨j - 1, by omega⟩
      obtain ⟨b, off, rfl, hb, c0⟩ := slI_cell SL.out i (by omega)
      obtain ⟨b', off', e, _, c1⟩ := slI_cell SL.out (i + 1) hlt
      cases e
      have q0 : ∀ x : Later wr, x.w'.cell? ⟨b, off + i, none⟩ = some (.int .u16 (l.getD i 0)) := fun x => c0 _ (hm.trans x.h)
      have q1 : ∀ x : Later wr, x.w'.cell? ⟨b, off + (i + 1), none⟩ = some (.int .u16 (l.getD (i + 1) 0)) := fun x => c1 _ (hm.trans x.h)
      have u0 := HU.out _ (getD_mem (l := l) (i := i) (by omega))
      have u1 := HU.out _ (getD_mem hlt)
      have hlt2 : ((i : Int) + 1) < (l.length : Int) := by omega
      have hlt1 : ((i : Int)) < (l.length : Int) := by omega
      have HN := Lib.hid (fun w => Newer_any (l.getD i 0) (l.getD (i + 1) 0) w u0 u1)
      have HJ : Hid (0 < ahd (l.getD i 0) (l.getD (i + 1) 0) → ∀ k, k + 1 < i + 1 + 1 → 0 < ahd (l.getD k 0) (l.getD (k + 1) 0)) := Lib.hid (fun h k hk => by
        by_cases e : k = i
        · subst e; exact h
        · exact HALL.out k (by omega))
      have HX : Hid (¬ 0 < ahd (l.getD i 0) (l.getD (i + 1) 0) → riseB l = false) := Lib.hid (fun h => by
        rw [Bool.eq_false_iff]
        intro hr
        exact h ((riseB_iff l).1 hr i hlt))
      clear hall c0 c1 u0 u1 HALL
      generalize l.getD i 0 = a at *
      generalize l.getD (i + 1) 0 = c at *
      by_cases hd : 0 < ahd a c
      · have hb1 : decide (0 < ahd a c) = true := decide_eq_true hd
        have HJ2 := Lib.hid (HJ.out hd)
        clear HJ HX
        go_wp2_with fail
        refine wp_region_later wr (More.refl _) (by kernel_rfl) (by kernel_rfl) ?_
        repeat (go_big_quiet_step ((go_at_call 144; with_reducible exact calls_later_same ((HN.out _).mono fun _ _ ⟨e, h⟩ => ⟨e, h.symm⟩))))
        refine wpQuiet_nil ?_
        intro _ hw'
        obtain ⟨x9, rfl⟩ := hw'
        go_wp2
        go_roundw
        case rel => exact ⟨i + 1 + 1, by omega, Or.inl (by omega), by go_num, HJ2.out, hm.trans x9.h⟩
        case measure => simp [intOf]; omega
      · have hb1 : decide (0 < ahd a c) = false := decide_eq_false hd
        have HX2 := Lib.hid (HX.out hd)
        clear HJ HX
        go_wp2_with fail
        refine wp_region_later wr (More.refl _) (by kernel_rfl) (by kernel_rfl) ?_
        repeat (go_big_quiet_step ((go_at_call 144; with_reducible exact calls_later_same ((HN.out _).mono fun _ _ ⟨e, h⟩ => ⟨e, h.symm⟩))))
        refine wpQuiet_nil ?_
        intro _ hw'
        obtain ⟨x9, rfl⟩ := hw'
        go_wp2
        go_ret
        exact ⟨by rw [HX2.out]; rfl, hm.trans x9.h⟩
    · have hr : riseB l = true := (riseB_iff l).2 (fun k hk => hall k (by omega))
      have HR := Lib.hid hr
      have hlt2 : ¬ (j : Int) < (l.length : Int) := by omega
      clear hr hall
      go_wp2
      go_ret
      exact ⟨by rw [HR.out]; rfl, hm⟩
theorem own_litN {w : World} {n base e size N : Nat} {cs : Array Value} (hn : n = w.heap.size) (hb : base ≤ n) (hm : N ≤ 1000000) (hs : cs.size = N * size) : (w.alloc (.cells cs e)).ownsRow base e size (.slice (some ⟨n, 0, none⟩) N N) N cs.toList := by
  subst hn
  exact World.ownsRow_lit w cs N hb (by unfold maxLen; omega) hs
theorem bit_and {m : Int} (h : U16 m) (k : Nat) : bits .and .u16 (m / 2 ^ k) 1 = if tb m k then 1 else 0 := by
  obtain ⟨h0, h1⟩ := h
  obtain ⟨N, rfl⟩ := Int.eq_ofNat_of_zero_le h0
  have hN : N / 2 ^ k ≤ N := Nat.div_le_self _ _
  have e : ((N : Int) / 2 ^ k) = ((N / 2 ^ k : Nat) : Int) := by simp
  rw [e, show (1 : Int) = ((1 : Nat) : Int) from rfl, u16_and_nat (N / 2 ^ k) 1 (by omega) (by decide)]
  unfold tb
  rw [Int.toNat_natCast, Nat.testBit_eq_decide_div_mod_eq, Nat.and_one_is_mod]
  rcases Nat.mod_two_eq_zero_or_one (N / 2 ^ k) with h | h <;> simp [h]
/-- A pair's numbers, the first j of its bits. -/
def prNT (p : Int × Int) (j : Nat) : List Int := p.1 :: ((List.range j).filter (tb p.2)).map fun k : Nat => (p.1 + k + 1) % 65536
theorem prNT_0 (p : Int × Int) : prNT p 0 = [p.1] := rfl
theorem prNT_16 (p : Int × Int) : prNT p 16 = prN p := rfl
theorem prNT_succ (p : Int × Int) (j : Nat) : prNT p (j + 1) = prNT p j ++ (if tb p.2 j then [(p.1 + j + 1) % 65536] else []) := by
  unfold prNT
  rw [List.range_succ, List.filter_append, List.map_append]
  by_cases h : tb p.2 j = true
  · simp [h]
  · simp [h]
theorem prNT_len (p : Int × Int) (j : Nat) (h : j ≤ 16) : (prNT p j).length ≤ 17 := by
  unfold prNT
  rw [List.length_cons, List.length_map]
  have := List.length_filter_le (tb p.2) (List.range j)
  rw [List.length_range] at this
  omega
set_option maxHeartbeats 1000000 in
theorem PLost_any (p : Int × Int) (w : World) (h1 : U16 p.1) (h2 : U16 p.2) :
    Calls Try.prog 145 #[.agg #[.int .u16 p.1, .int .u16 p.2]] w fun e w' => ∃ v, e = .returned v ∧ w'.ownsRow w.heap.size 52 1 v (prN p).length ((prN p).map (Value.int .u16)) ∧ More w w' := by
  obtain ⟨q, m⟩ := p
  simp only at h1 h2
  obtain ⟨i0, hi, hz0, hz1, hz2⟩ := info_parts (P := Try.prog) (e := 52) (z := .int .u16 0) (size := 1) (bytes := 2) (by kernel_rfl)
  go_enter Try.func145, Try.ntmps145
  go_wp2
  go_loopw [3, 8] (fun v ix wr => ∃ j : Nat, j ≤ 16 ∧ ix = .int .i64 j ∧ wr.ownsRow (w.heap.size + 1) 52 1 v (prNT (q, m) j).length ((prNT (q, m) j).map (Value.int .u16)) ∧ More (w.alloc (.cells #[.int .u16 q, .int .u16 m] 179)) wr) (fun _ ix _ => 16 - (intOf ix).toNat)
  case atStart =>
    refine ⟨0, by omega, rfl, ?_, More.alloc _ _⟩
    rw [prNT_0]
    exact own_litN (cs := #[.int .u16 q]) (by simp) (Nat.le_refl _) (by decide) rfl
  case round =>
    obtain ⟨j, hj, rfl, hrow, hm⟩ := hrel
    have f0 := hm.new 0 (v := .int .u16 q) rfl
    have f1 := hm.new 1 (v := .int .u16 m) rfl
    have M0 := Lib.hid ((More.alloc w (.cells #[.int .u16 q, .int .u16 m] 179)).trans hm)
    have M1 := Lib.hid hm
    have HR := Lib.hid hrow
    have hlen := prNT_len (q, m) j hj
    by_cases hlt : j < 16
    · have hji : (j : Int) < 16 := by omega
      have hba := bit_and h2 j
      have HS := Lib.hid (prNT_succ (q, m) j)
      by_cases ht : tb m j = true
      · rw [if_pos ht] at hba
        have hb1 : (bits .and .u16 (m / 2 ^ j) 1 == 1) = true := by rw [hba]; rfl
        obtain ⟨n, hn⟩ : ∃ n, (q + j + 1) % 65536 = n := ⟨_, rfl⟩
        have hv : IntKind.u16.wrap (IntKind.u16.wrap (q + (j : Int)) + 1) = n := by rw [IntKind.wrap_u16, IntKind.wrap_u16]; omega
        have HS2 : Hid (prNT (q, m) (j + 1) = prNT (q, m) j ++ [n]) := Lib.hid (by rw [HS.out]; simp only; rw [if_pos ht, hn])
        clear hba ht hn HS hm
        generalize prNT (q, m) j = L at *
        clear hrow
        go_wp2_with (at_builtin; refine wpList_append_at _ rfl (.tmp 17) (.tmp 24) 83 rfl (w.heap.size + 1) 52 i0 (.int .u16 0) 2 Try.underlying83 hi hz0 hz1 hz2 rfl _ .u16 L rfl (owns_more HR.out (More.alloc _ _)) _ [n] rfl (SlI.lit .u16 wr [n] 52 _ 1 _ rfl rfl rfl (by simp)) (by simp only [List.length_cons, List.length_nil]; omega) (by decide) (Nat.le_trans (by simp) (M1.out.al _).size) ?_; intro v5 w5 ho5 hg5 _; have HO := Lib.hid ho5; have HM := Lib.hid ((M1.out.al (.cells #[.int .u16 n] 52)).grown hg5 (M1.out.al (.cells #[.int .u16 n] 52)).size (fun z hz => by have := owns_ge HR.out hz; simpa using this)); clear ho5 hg5)
        go_roundw
        case rel => exact ⟨j + 1, by omega, by go_num, by rw [HS2.out]; exact HO.out, HM.out⟩
        case measure => simp [intOf]; omega
      · rw [if_neg ht] at hba
        have hb1 : (bits .and .u16 (m / 2 ^ j) 1 == 1) = false := by rw [hba]; rfl
        have HS2 : Hid (prNT (q, m) (j + 1) = prNT (q, m) j) := Lib.hid (by rw [HS.out]; simp only; rw [if_neg ht, List.append_nil])
        clear hba ht HS
        go_wp2
        go_roundw
        case rel => exact ⟨j + 1, by omega, by go_num, by rw [HS2.out]; exact HR.out, M1.out⟩
        case measure => simp [intOf]; omega
    · obtain rfl : j = 16 := by omega
      go_wp2
      go_ret
      exact ⟨_, rfl, owns_down HR.out (Nat.le_succ _), M0.out⟩
end Go.Proofs.Ytlnikmcimmnbmaa
