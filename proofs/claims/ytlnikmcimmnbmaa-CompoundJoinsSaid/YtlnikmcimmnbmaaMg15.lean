/- Merged from my texts FeedB, FeedC. -/
import Derived.Test.YtlnikmcimmnbmaaMg14
import Derived.Deep.AppendLies
/- Feedback messages: do numbers rise; what a pair tells; the kind of a chunk. -/
namespace Go.Proofs.Ytlnikmcimmnbmaa
set_option linter.unusedSimpArgs false
set_option linter.unusedVariables false
open Go.RowKit
set_option maxRecDepth 100000

theorem slI_cell {k : IntKind} {w : World} {oa : Option Addr} {n c : Nat} {l : List Int} (h : SlI k w (.slice oa n c) l) (i : Nat) (hi : i < l.length) : ∃ b off, oa = some ⟨b, off, none⟩ ∧ b < w.heap.size ∧ ∀ x, More w x → x.cell? ⟨b, off + i, none⟩ = some (.int k (l.getD i 0)) := by
  obtain ⟨oa', cap', e, _, h2, _⟩ := h
  cases e
  obtain ⟨b, off, e, hb, hc⟩ := h2 i hi
  exact ⟨b, off, e, hb, fun x m => by rw [m.cells b _ hb]; exact hc⟩
theorem getD_mem {l : List Int} {i : Nat} (h : i < l.length) : l.getD i 0 ∈ l := by
  rw [List.getD_eq_getElem?_getD, List.getElem?_eq_getElem h]; exact List.getElem_mem h
set_option maxHeartbeats 1000000 in
theorem Rising_any (l : List Int) (v : Value) (w : World) (sl : SlI .u16 w v l) (hu : ∀ x ∈ l, U16 x) :
    Calls Try.prog 109 #[v] w fun e w' => e = .returned (.bool (riseB l)) ∧ More w w' := by
  have SL := Lib.hid sl
  have HU := Lib.hid hu
  obtain ⟨oa, cap, rfl, hl63, -⟩ := sl
  clear hu
  go_enter Try.func109, Try.ntmps109
  go_wp2
  go_loopw [3] (fun ix wr => ∃ j : Nat, 1 ≤ j ∧ (j ≤ l.length ∨ j = 1) ∧ ix = .int .i64 j ∧ (∀ k, k + 1 < j → 0 < ahd (l.getD k 0) (l.getD (k + 1) 0)) ∧ More w wr) (fun ix _ => l.length - (intOf ix).toNat)
  case atStart => exact ⟨1, by omega, Or.inr rfl, rfl, fun k hk => by omega, More.refl _⟩
  case round =>
    obtain ⟨j, h1, hj, rfl, hall, hm⟩ := hrel
    have HALL := Lib.hid hall
    by_cases hlt : j < l.length
    · obtain ⟨i, rfl⟩ : ∃ i, j = i + 1 := ⟨j - 1, by omega⟩
      obtain ⟨b, off, rfl, hb, c0⟩ := slI_cell SL.out i (by omega)
      obtain ⟨b', off', e, _, c1⟩ := slI_cell SL.out (i + 1) hlt
      cases e
      have q0 : ∀ x : Later wr, x.w'.cell? ⟨b, off + i, none⟩ = some (.int .u16 (l.getD i 0)) := fun x => c0 _ (hm.trans x.h)
      have q1 : ∀ x : Later wr, x.w'.cell? ⟨b, off + (i + 1), none⟩ = some (.int .u16 (l.getD (i + 1) 0)) := fun x => c1 _ (hm.trans x.h)
      have u0 := HU.out _ (getD_mem (l := l) (i := i) (by omega))
      have u1 := HU.out _ (getD_mem hlt)
      have hlt2 : ((i : Int) + 1) < (l.length : Int) := by omega
      have hlt1 : ((i : Int)) < (l.length : Int) := by omega
      have HN := Lib.hid (fun w => Newer_any (l.getD i 0) (l.getD (i + 1) 0) w u0 u1)
      have HJ : Hid (0 < ahd (l.getD i 0) (l.getD (i + 1) 0) → ∀ k, k + 1 < i + 1 + 1 → 0 < ahd (l.getD k 0) (l.getD (k + 1) 0)) := Lib.hid (fun h k hk => by
        by_cases e : k = i
        · subst e; exact h
        · exact HALL.out k (by omega))
      have HX : Hid (¬ 0 < ahd (l.getD i 0) (l.getD (i + 1) 0) → riseB l = false) := Lib.hid (fun h => by
        rw [Bool.eq_false_iff]
        intro hr
        exact h ((riseB_iff l).1 hr i hlt))
      clear hall c0 c1 u0 u1 HALL
      generalize l.getD i 0 = a at *
      generalize l.getD (i + 1) 0 = c at *
      by_cases hd : 0 < ahd a c
      · have hb1 : decide (0 < ahd a c) = true := decide_eq_true hd
        have HJ2 := Lib.hid (HJ.out hd)
        clear HJ HX
        go_wp2_with fail
        refine wp_region_later wr (More.refl _) (by kernel_rfl) (by kernel_rfl) ?_
        repeat (go_big_quiet_step ((go_at_call 144; with_reducible exact calls_later_same ((HN.out _).mono fun _ _ ⟨e, h⟩ => ⟨e, h.symm⟩))))
        refine wpQuiet_nil ?_
        intro _ hw'
        obtain ⟨x9, rfl⟩ := hw'
        go_wp2
        go_roundw
        case rel => exact ⟨i + 1 + 1, by omega, Or.inl (by omega), by go_num, HJ2.out, hm.trans x9.h⟩
        case measure => simp [intOf]; omega
      · have hb1 : decide (0 < ahd a c) = false := decide_eq_false hd
        have HX2 := Lib.hid (HX.out hd)
        clear HJ HX
        go_wp2_with fail
        refine wp_region_later wr (More.refl _) (by kernel_rfl) (by kernel_rfl) ?_
        repeat (go_big_quiet_step ((go_at_call 144; with_reducible exact calls_later_same ((HN.out _).mono fun _ _ ⟨e, h⟩ => ⟨e, h.symm⟩))))
        refine wpQuiet_nil ?_
        intro _ hw'
        obtain ⟨x9, rfl⟩ := hw'
        go_wp2
        go_ret
        exact ⟨by rw [HX2.out]; rfl, hm.trans x9.h⟩
    · have hr : riseB l = true := (riseB_iff l).2 (fun k hk => hall k (by omega))
      have HR := Lib.hid hr
      have hlt2 : ¬ (j : Int) < (l.length : Int) := by omega
      clear hr hall
      go_wp2
      go_ret
      exact ⟨by rw [HR.out]; rfl, hm⟩
theorem own_litN {w : World} {n base e size N : Nat} {cs : Array Value} (hn : n = w.heap.size) (hb : base ≤ n) (hm : N ≤ 1000000) (hs : cs.size = N * size) : (w.alloc (.cells cs e)).ownsRow base e size (.slice (some ⟨n, 0, none⟩) N N) N cs.toList := by
  subst hn
  exact World.ownsRow_lit w cs N hb (by unfold maxLen; omega) hs
theorem bit_and {m : Int} (h : U16 m) (k : Nat) : bits .and .u16 (m / 2 ^ k) 1 = if tb m k then 1 else 0 := by
  obtain ⟨h0, h1⟩ := h
  obtain ⟨N, rfl⟩ := Int.eq_ofNat_of_zero_le h0
  have hN : N / 2 ^ k ≤ N := Nat.div_le_self _ _
  have e : ((N : Int) / 2 ^ k) = ((N / 2 ^ k : Nat) : Int) := by simp
  rw [e, show (1 : Int) = ((1 : Nat) : Int) from rfl, u16_and_nat (N / 2 ^ k) 1 (by omega) (by decide)]
  unfold tb
  rw [Int.toNat_natCast, Nat.testBit_eq_decide_div_mod_eq, Nat.and_one_is_mod]
  rcases Nat.mod_two_eq_zero_or_one (N / 2 ^ k) with h | h <;> simp [h]
/-- A pair's numbers, the first j of its bits. -/
def prNT (p : Int × Int) (j : Nat) : List Int := p.1 :: ((List.range j).filter (tb p.2)).map fun k : Nat => (p.1 + k + 1) % 65536
theorem prNT_0 (p : Int × Int) : prNT p 0 = [p.1] := rfl
theorem prNT_16 (p : Int × Int) : prNT p 16 = prN p := rfl
theorem prNT_succ (p : Int × Int) (j : Nat) : prNT p (j + 1) = prNT p j ++ (if tb p.2 j then [(p.1 + j + 1) % 65536] else []) := by
  unfold prNT
  rw [List.range_succ, List.filter_append, List.map_append]
  by_cases h : tb p.2 j = true
  · simp [h]
  · simp [h]
theorem prNT_len (p : Int × Int) (j : Nat) (h : j ≤ 16) : (prNT p j).length ≤ 17 := by
  unfold prNT
  rw [List.length_cons, List.length_map]
  have := List.length_filter_le (tb p.2) (List.range j)
  rw [List.length_range] at this
  omega
set_option maxHeartbeats 1000000 in
theorem PLost_any (p : Int × Int) (w : World) (h1 : U16 p.1) (h2 : U16 p.2) :
    Calls Try.prog 145 #[.agg #[.int .u16 p.1, .int .u16 p.2]] w fun e w' => ∃ v, e = .returned v ∧ w'.ownsRow w.heap.size 52 1 v (prN p).length ((prN p).map (Value.int .u16)) ∧ More w w' := by
  obtain ⟨q, m⟩ := p
  simp only at h1 h2
  obtain ⟨i0, hi, hz0, hz1, hz2⟩ := info_parts (P := Try.prog) (e := 52) (z := .int .u16 0) (size := 1) (bytes := 2) (by kernel_rfl)
  go_enter Try.func145, Try.ntmps145
  go_wp2
  go_loopw [3, 8] (fun v ix wr => ∃ j : Nat, j ≤ 16 ∧ ix = .int .i64 j ∧ wr.ownsRow (w.heap.size + 1) 52 1 v (prNT (q, m) j).length ((prNT (q, m) j).map (Value.int .u16)) ∧ More (w.alloc (.cells #[.int .u16 q, .int .u16 m] 179)) wr) (fun _ ix _ => 16 - (intOf ix).toNat)
  case atStart =>
    refine ⟨0, by omega, rfl, ?_, More.alloc _ _⟩
    rw [prNT_0]
    exact own_litN (cs := #[.int .u16 q]) (by simp) (Nat.le_refl _) (by decide) rfl
  case round =>
    obtain ⟨j, hj, rfl, hrow, hm⟩ := hrel
    have f0 := hm.new 0 (v := .int .u16 q) rfl
    have f1 := hm.new 1 (v := .int .u16 m) rfl
    have M0 := Lib.hid ((More.alloc w (.cells #[.int .u16 q, .int .u16 m] 179)).trans hm)
    have M1 := Lib.hid hm
    have HR := Lib.hid hrow
    have hlen := prNT_len (q, m) j hj
    by_cases hlt : j < 16
    · have hji : (j : Int) < 16 := by omega
      have hba := bit_and h2 j
      have HS := Lib.hid (prNT_succ (q, m) j)
      by_cases ht : tb m j = true
      · rw [if_pos ht] at hba
        have hb1 : (bits .and .u16 (m / 2 ^ j) 1 == 1) = true := by rw [hba]; rfl
        obtain ⟨n, hn⟩ : ∃ n, (q + j + 1) % 65536 = n := ⟨_, rfl⟩
        have hv : IntKind.u16.wrap (IntKind.u16.wrap (q + (j : Int)) + 1) = n := by rw [IntKind.wrap_u16, IntKind.wrap_u16]; omega
        have HS2 : Hid (prNT (q, m) (j + 1) = prNT (q, m) j ++ [n]) := Lib.hid (by rw [HS.out]; simp only; rw [if_pos ht, hn])
        clear hba ht hn HS hm
        generalize prNT (q, m) j = L at *
        clear hrow
        go_wp2_with (at_builtin; refine wpList_append_at _ rfl (.tmp 17) (.tmp 24) 83 rfl (w.heap.size + 1) 52 i0 (.int .u16 0) 2 Try.underlying83 hi hz0 hz1 hz2 rfl _ .u16 L rfl (owns_more HR.out (More.alloc _ _)) _ [n] rfl (SlI.lit .u16 wr [n] 52 _ 1 _ rfl rfl rfl (by simp)) (by simp only [List.length_cons, List.length_nil]; omega) (by decide) (Nat.le_trans (by simp) (M1.out.al _).size) ?_; intro v5 w5 ho5 hg5 _; have HO := Lib.hid ho5; have HM := Lib.hid ((M1.out.al (.cells #[.int .u16 n] 52)).grown hg5 (M1.out.al (.cells #[.int .u16 n] 52)).size (fun z hz => by have := owns_ge HR.out hz; simpa using this)); clear ho5 hg5)
        go_roundw
        case rel => exact ⟨j + 1, by omega, by go_num, by rw [HS2.out]; exact HO.out, HM.out⟩
        case measure => simp [intOf]; omega
      · rw [if_neg ht] at hba
        have hb1 : (bits .and .u16 (m / 2 ^ j) 1 == 1) = false := by rw [hba]; rfl
        have HS2 : Hid (prNT (q, m) (j + 1) = prNT (q, m) j) := Lib.hid (by rw [HS.out]; simp only; rw [if_neg ht, List.append_nil])
        clear hba ht HS
        go_wp2
        go_roundw
        case rel => exact ⟨j + 1, by omega, by go_num, by rw [HS2.out]; exact HR.out, M1.out⟩
        case measure => simp [intOf]; omega
    · obtain rfl : j = 16 := by omega
      go_wp2
      go_ret
      exact ⟨_, rfl, owns_down HR.out (Nat.le_succ _), M0.out⟩
end Go.Proofs.Ytlnikmcimmnbmaa
/- Feedback messages: pairs of lost numbers; the kind of a chunk. -/
namespace Go.Proofs.Ytlnikmcimmnbmaa
set_option linter.unusedSimpArgs false
set_option linter.unusedVariables false
open Go.RowKit
set_option maxRecDepth 100000

def prC (l : List (Int × Int)) : List Value := l.flatMap fun p => [.int .u16 p.1, .int .u16 p.2]
theorem prC_snoc (l : List (Int × Int)) (p : Int × Int) : prC (l ++ [p]) = prC l ++ [.int .u16 p.1, .int .u16 p.2] := by simp [prC]
theorem prC_len (l : List (Int × Int)) : (prC l).length = l.length * 2 := by
  induction l with
  | nil => rfl
  | cons p l ih =>
    simp only [prC, List.flatMap_cons, List.length_append, List.length_cons, List.length_nil] at ih ⊢
    omega
theorem prC_at (is : List (Int × Int)) (q m : Int) : (prC (is ++ [(q, m)]))[is.length * 2]? = some (.int .u16 q) ∧ (prC (is ++ [(q, m)]))[is.length * 2 + 1]? = some (.int .u16 m) := by
  rw [prC_snoc, List.getElem?_append_right (by rw [prC_len]; omega), List.getElem?_append_right (by rw [prC_len]; omega), prC_len]
  constructor
  · rw [Nat.sub_self]; rfl
  · rw [show is.length * 2 + 1 - is.length * 2 = 1 by omega]; rfl
theorem prC_set (is : List (Int × Int)) (q m x : Int) : (prC (is ++ [(q, m)])).set (is.length * 2 + 1) (.int .u16 x) = prC (is ++ [(q, x)]) := by
  rw [prC_snoc, prC_snoc, List.set_append_right _ _ (by rw [prC_len]; omega), prC_len, show is.length * 2 + 1 - is.length * 2 = 1 by omega]
  rfl
theorem or_orb {m : Int} (h : U16 m) (k : Nat) (hk : k < 16) : bits .or .u16 m (IntKind.u16.wrap (2 ^ k)) = orb m k := by
  obtain ⟨h0, h1⟩ := h
  obtain ⟨N, rfl⟩ := Int.eq_ofNat_of_zero_le h0
  have hp : 2 ^ k < 65536 := Nat.pow_lt_pow_right (by decide) hk
  have e : IntKind.u16.wrap (2 ^ k) = ((2 ^ k : Nat) : Int) := by
    rw [IntKind.wrap_u16]
    have : ((2 : Int) ^ k) = ((2 ^ k : Nat) : Int) := by simp
    rw [this]
    generalize 2 ^ k = P at hp ⊢
    omega
  rw [e, u16_or_nat N (2 ^ k) (by omega) hp]
  unfold orb
  simp
theorem new_pair {w : World} {cs : Array Value} {t B : Nat} (hB : B = w.heap.size) : ∀ j u, cs.toList[j]? = some u → (w.alloc (.cells cs t)).cell? ((⟨B, 0, none⟩ : Addr).add j) = some u := by
  intro j u h
  have ea : (⟨B, 0, none⟩ : Addr).add j = ⟨B, j, none⟩ := by
    unfold Addr.add; split
    · rename_i h0; subst h0; rfl
    · simp
  rw [ea]
  exact new_cells hB j u h
theorem row_shape {w : World} {base e size n : Nat} {v : Value} {xs : List Value} (h : w.ownsRow base e size v n xs) : ∃ oa cap, v = .slice oa n cap ∧ (n : Int) ≤ 9223372036854775807 := by
  rcases h.2 with ⟨rfl, h0⟩ | ⟨g, cap, cur, rfl, _, _, hn, hm, _⟩
  · exact ⟨none, 0, by rw [h0], by omega⟩
  · exact ⟨_, cap, rfl, by unfold maxLen at hm; omega⟩
theorem row_form {w : World} {base e size n : Nat} {v : Value} {xs : List Value} (h : w.ownsRow base e size v n xs) (hn : 0 < n) : ∃ g cap, v = .slice (some ⟨g, 0, none⟩) n cap ∧ base ≤ g ∧ g < w.heap.size ∧ (n : Int) ≤ 9223372036854775807 := by
  rcases h.2 with ⟨rfl, h0⟩ | ⟨g, cap, cur, rfl, hb, hg, hnc, hm, _⟩
  · omega
  · exact ⟨g, cap, rfl, hb, lt_of_block hg, by unfold maxLen at hm; omega⟩
theorem row_ge' {w : World} {base e size n : Nat} {v : Value} {xs : List Value} (h : w.ownsRow base e size v n xs) {b : Nat} (hb : v.ownBlock = some b) : base ≤ b := by
  rcases h.2 with ⟨rfl, _⟩ | ⟨b', cap, cur, rfl, hb', _⟩
  · cases hb
  · obtain rfl : b' = b := by injection hb
    exact hb'
set_option maxHeartbeats 4000000 in
theorem Pairs_any (l : List Int) (v : Value) (w : World) (sl : SlI .u16 w v l) (hu : ∀ x ∈ l, U16 x) (hr : riseB l = true) (hl : l.length ≤ 100000) :
    Calls Try.prog 110 #[v] w fun e w' => ∃ v', e = .returned v' ∧ w'.ownsRow w.heap.size 179 2 v' (pairsF l).length (prC (pairsF l)) ∧ More w w' := by
  obtain ⟨i0, hi, hz0, hz1, hz2⟩ := info_parts (P := Try.prog) (e := 179) (z := .agg #[.int .u16 0, .int .u16 0]) (size := 2) (bytes := 4) (by kernel_rfl)
  have SL := Lib.hid sl
  have HU := Lib.hid hu
  have HI := Lib.hid (prI_all hu hr)
  obtain ⟨oa, cap, rfl, hl63, -⟩ := sl
  clear hu hr
  go_enter Try.func110, Try.ntmps110
  go_wp2
  go_loopw [3, 10] (fun v ix wr => ∃ j : Nat, j ≤ l.length ∧ ix = .int .i64 j ∧ wr.ownsRow w.heap.size 179 2 v (pairsF (l.take j)).length (prC (pairsF (l.take j))) ∧ More w wr) (fun _ ix _ => l.length - (intOf ix).toNat)
  case atStart => exact ⟨0, by omega, rfl, World.ownsRow_nil _ _ _ _, More.refl _⟩
  case round =>
    obtain ⟨j, hj, rfl, hrow, hm⟩ := hrel
    have HR := Lib.hid hrow
    have HM := Lib.hid hm
    by_cases hlt : j < l.length
    · obtain ⟨b, off, rfl, hb, c0⟩ := slI_cell SL.out j hlt
      have q0 := c0 _ hm
      have hlt2 : (j : Int) < (l.length : Int) := by omega
      have un := HU.out _ (getD_mem hlt)
      have HP := Lib.hid (HI.out j hj)
      have HS := Lib.hid (pairsF_succ l j hlt)
      have hpl : (pairsF (l.take j)).length ≤ j := by
        have h1 := (prF_len (pairsF (l.take j))).1
        rw [HP.out.flat, List.length_take] at h1
        omega
      generalize l.getD j 0 = n at *
      generalize pairsF (l.take j) = ps at *
      have UN := Lib.hid un
      clear c0 un hm
      by_cases hne : ps = []
      · subst hne
        obtain ⟨ov, cv, rfl, -⟩ := row_shape hrow
        have HS2 : Hid (pairsF (l.take (j + 1)) = [] ++ [(n, 0)]) := Lib.hid (by rw [HS.out]; unfold prStep; rw [if_neg (fun h => h.1 rfl)])
        have hrow0 := HR.out
        clear hrow
        go_wp2_with (at_builtin; refine wpList_append_own_at _ rfl (.tmp 44) (.tmp 47) 174 rfl w.heap.size 179 i0 (.agg #[.int .u16 0, .int .u16 0]) 2 4 Try.underlying174 hi hz0 hz1 hz2 rfl (by decide) _ 0 [] rfl (owns_more HR.out (More.alloc _ _)) ⟨wr.heap.size, 0, none⟩ 1 1 [.int .u16 n, .int .u16 0] rfl rfl (new_pair rfl) (by simp [Value.oneCell']) (by unfold maxLen; omega) (by decide) (HM.out.al _).size ?_; intro v5 w5 ho5 hg5 _ _; have HO := Lib.hid ho5; have HG := Lib.hid ((HM.out.al _).grown hg5 (HM.out.al _).size (fun z hz => row_ge' HR.out hz)); clear ho5 hg5)
        go_roundw
        case rel => exact ⟨j + 1, by omega, by go_num, by rw [HS2.out]; exact HO.out, HG.out⟩
        case measure => simp [intOf]; omega
      · obtain ⟨is, ⟨q, m⟩, rfl⟩ : ∃ is p, ps = is ++ [p] := ⟨ps.dropLast, ps.getLast hne, (List.dropLast_concat_getLast hne).symm⟩
        have hok := HP.out.ok (q, m) (by simp)
        obtain ⟨uq, um⟩ := hok
        simp only at uq um
        obtain ⟨k, hk⟩ : ∃ k, is.length = k := ⟨_, rfl⟩
        have hlk : (is ++ [(q, m)]).length = k + 1 := by simp [hk]
        rw [hlk] at hrow hpl
        obtain ⟨g, cap', rfl, hg1, hg2, -⟩ := row_form hrow (by omega)
        have cq : wr.cell? ⟨g, k * 2, none⟩ = some (.int .u16 q) := by rw [hrow.cellAt (k * 2) (by omega), ← hk]; exact (prC_at is q m).1
        have cm : wr.cell? ⟨g, k * 2 + 1, none⟩ = some (.int .u16 m) := by rw [hrow.cellAt (k * 2 + 1) (by omega), ← hk]; exact (prC_at is q m).2
        have zf := hrow.frozenAt (k * 2 + 1)
        have HR1 := Lib.hid hrow
        have HN := Lib.hid (fun w => Ahead_any q n w uq UN.out)
        have HK := Lib.hid hk
        have UM := Lib.hid um
        clear hne hrow hlk uq um hk HR
        have hk1 : (0 : Int) < ((k : Int) + 1) := by omega
        have HPJ : Hid (prJ (is ++ [(q, m)]) n ↔ 1 ≤ ahd q n ∧ ahd q n ≤ 16) := Lib.hid (by unfold prJ; rw [getLastD_snoc]; simp)
        by_cases hj2 : 1 ≤ ahd q n ∧ ahd q n ≤ 16
        · obtain ⟨f1, f2⟩ := hj2
          obtain ⟨t, ht⟩ : ∃ t : Nat, ahd q n = (t : Int) + 1 := ⟨(ahd q n - 1).toNat, by omega⟩
          have ht16 : t < 16 := by omega
          have HS2 : Hid (pairsF (l.take (j + 1)) = is ++ [(q, orb m t)]) := Lib.hid (by
            rw [HS.out]
            unfold prStep
            rw [if_pos (HPJ.out.2 ⟨f1, f2⟩), getLastD_snoc, List.dropLast_concat]
            simp only
            rw [ht]
            congr
            omega)
          have hor := or_orb UM.out t ht16
          have HT := Lib.hid ht
          rw [ht] at HN
          clear ht f1 f2 HPJ
          have t0 : (1 : Int) ≤ (t : Int) + 1 := by omega
          have t1 : (t : Int) + 1 ≤ 16 := by omega
          go_wp2_with (go_at_call 146; ((with_reducible refine (HN.out _).mono ?_); rintro e w3 ⟨rfl, rfl⟩))
          have d1 : ∀ x : Later wr, x.w'.cell? ⟨g, k * 2 + 1, none⟩ = some (.int .u16 m) := fun x => by rw [x.h.cells g _ hg2]; exact cm
          refine wp_region_num wr 10 [(0, false), (1, false), (2, false), (3, false), (4, false), (5, false), (6, false), (7, false), (8, true), (9, false), (10, true)] (by kernel_rfl) (by kernel_rfl) ?_
          iterate 8 (refine num_quiet rfl rfl (later_mk (by repeat (first | exact More.refl _ | assumption | refine More.dr ?_ _ | refine More.al ?_ _ | refine More.st ?_ (by simp) _))) ?_; intro K hK; go_big_quiet_op; go_big_quiet_on)
          (refine num_next rfl rfl ?_; intro K hK; unfold loud; go_simp)
          refine ⟨later_mk (by repeat (first | exact More.refl _ | assumption | refine More.dr ?_ _ | refine More.al ?_ _ | refine More.st ?_ (by simp) _)), hK _ _ ?_⟩
          clear hK K
          iterate 1 (refine num_quiet rfl rfl (later_mk (by repeat (first | exact More.refl _ | assumption | refine More.dr ?_ _ | refine More.al ?_ _ | refine More.st ?_ (by simp) _))) ?_; intro K hK; go_big_quiet_op; go_big_quiet_on)
          (refine num_end rfl rfl (by decide) ?_; intro K hK; unfold loud; go_simp)
          refine hK _ _ ?_
          clear hK K
          refine num_nil ?_
          have hst := (owns_more HR1.out (More.drewN wr 1)).stored (k * 2 + 1) (.int .u16 (orb m t))
          have HST : Hid (((wr.drewN 1).setCell ⟨g, k * 2 + 1, none⟩ (.int .u16 (orb m t))).ownsRow w.heap.size 179 2 (.slice (some ⟨g, 0, none⟩) (k + 1) cap') (k + 1) (prC (is ++ [(q, orb m t)]))) := Lib.hid (by
            have h9 := hst.1
            rw [← HK.out, prC_set] at h9
            rw [← HK.out]
            exact h9)
          have HMM := Lib.hid ((HM.out.dr 1).st (p := ⟨g, k * 2 + 1, none⟩) hg1 (.int .u16 (orb m t)))
          clear hst d1
          go_wp2
          go_roundw
          case rel => exact ⟨j + 1, by omega, by go_num, by rw [HS2.out]; simp only [List.length_append, List.length_cons, List.length_nil, HK.out]; exact HST.out, HMM.out⟩
          case measure => simp [intOf]; omega
        · have HS2 : Hid (pairsF (l.take (j + 1)) = (is ++ [(q, m)]) ++ [(n, 0)]) := Lib.hid (by
            rw [HS.out]
            unfold prStep
            rw [if_neg (fun h => hj2 (HPJ.out.1 h))])
          have hways : ahd q n < 1 ∨ (1 ≤ ahd q n ∧ 16 < ahd q n) := by omega
          clear hj2 HPJ
          generalize ahd q n = f at *
          have HLK : Hid ((is ++ [(q, m)]).length = k + 1) := Lib.hid (by simp [HK.out])
          rcases hways with f1 | ⟨f1, f2⟩
          all_goals
            go_wp2_with (first | (go_at_call 146; ((with_reducible refine (HN.out _).mono ?_); rintro e w3 ⟨rfl, rfl⟩)) | (at_builtin; refine wpList_append_own_at _ rfl (.tmp 44) (.tmp 47) 174 rfl w.heap.size 179 i0 (.agg #[.int .u16 0, .int .u16 0]) 2 4 Try.underlying174 hi hz0 hz1 hz2 rfl (by decide) _ (k + 1) (prC (is ++ [(q, m)])) rfl (owns_more HR1.out (More.alloc _ _)) ⟨wr.heap.size, 0, none⟩ 1 1 [.int .u16 n, .int .u16 0] rfl rfl (new_pair rfl) (by simp [Value.oneCell']) (by unfold maxLen; omega) (by omega) (HM.out.al _).size ?_; intro v5 w5 ho5 hg5 _ _; have HO := Lib.hid ho5; have HG := Lib.hid ((HM.out.al _).grown hg5 (HM.out.al _).size (fun z hz => row_ge' HR1.out hz)); clear ho5 hg5))
            go_roundw
            case rel => exact ⟨j + 1, by omega, by go_num, by rw [HS2.out, List.length_append, HLK.out, prC_snoc]; exact HO.out, HG.out⟩
            case measure => simp [intOf]; omega
    · obtain rfl : j = l.length := by omega
      rw [List.take_length] at hrow
      have HR2 := Lib.hid hrow
      have hlt2 : ¬ (l.length : Int) < (l.length : Int) := by omega
      clear hrow HR
      go_wp2
      go_ret
      exact ⟨_, rfl, HR2.out, HM.out⟩
end Go.Proofs.Ytlnikmcimmnbmaa
