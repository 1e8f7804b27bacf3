/- Feedback messages: pairs tell the lost numbers; the document's numbers that rise. -/
import Derived.Test.YtlnikmcimmnbmaaFeedK
namespace Go.Proofs.Ytlnikmcimmnbmaa
set_option linter.unusedSimpArgs false
set_option linter.unusedVariables false
open Go.RowKit
set_option maxRecDepth 100000

theorem RefAhead_any (a b : Int) (w : World) (ha : U16 a) (hb : U16 b) :
    Calls Try.prog 112 #[.int .u16 a, .int .u16 b] w fun e w' => e = .returned (.int .i64 (ahd a b)) ∧ w = w' := by
  obtain ⟨a0, a1⟩ := ha
  obtain ⟨b0, b1⟩ := hb
  by_cases h1 : (32767 : Int) < b - a
  · have e : ahd a b = b - a - 65536 := by unfold ahd; omega
    have E := Lib.hid e
    have h2 : ¬ b - a - 65536 < -32768 := by omega
    clear e
    go_enter Try.func112, Try.ntmps112
    go_wp2
    go_ret
    exact ⟨by rw [E.out]; rfl, rfl⟩
  · by_cases h2 : b - a < (-32768 : Int)
    · have e : ahd a b = b - a + 65536 := by unfold ahd; omega
      have E := Lib.hid e
      clear e
      go_enter Try.func112, Try.ntmps112
      go_wp2
      go_ret
      exact ⟨by rw [E.out]; rfl, rfl⟩
    · have e : ahd a b = b - a := by unfold ahd; omega
      have E := Lib.hid e
      clear e
      go_enter Try.func112, Try.ntmps112
      go_wp2
      go_ret
      exact ⟨by rw [E.out]; rfl, rfl⟩
set_option maxHeartbeats 1000000 in
theorem RefRise_any (l : List Int) (v : Value) (w : World) (sl : SlI .u16 w v l) (hu : ∀ x ∈ l, U16 x) :
    Calls Try.prog 51 #[v] w fun e w' => e = .returned (.bool (riseB l)) ∧ More w w' := by
  have SL := Lib.hid sl
  have HU := Lib.hid hu
  obtain ⟨oa, cap, rfl, hl63, -⟩ := sl
  clear hu
  go_enter Try.func51, Try.ntmps51
  go_wp2
  go_loopw [3] (fun ix wr => ∃ j : Nat, 1 ≤ j ∧ (j ≤ l.length ∨ j = 1) ∧ ix = .int .i64 j ∧ (∀ k, k + 1 < j → 0 < ahd (l.getD k 0) (l.getD (k + 1) 0)) ∧ More w wr) (fun ix _ => l.length - (intOf ix).toNat)
  case atStart => exact ⟨1, by omega, Or.inr rfl, rfl, fun k hk => by omega, More.refl _⟩
  case round =>
    obtain ⟨j, h1, hj, rfl, hall, hm⟩ := hrel
    have HALL := Lib.hid hall
    by_cases hlt : j < l.length
    · obtain ⟨i, rfl⟩ : ∃ i, j = i + 1 := ⟨j - 1, by omega⟩
      obtain ⟨b, off, rfl, hb, c0⟩ := slI_cell SL.out i (by omega)
      obtain ⟨b', off', e, _, c1⟩ := slI_cell SL.out (i + 1) hlt
      cases e
      have q0 : ∀ x : Later wr, x.w'.cell? ⟨b, off + i, none⟩ = some (.int .u16 (l.getD i 0)) := fun x => c0 _ (hm.trans x.h)
      have q1 : ∀ x : Later wr, x.w'.cell? ⟨b, off + (i + 1), none⟩ = some (.int .u16 (l.getD (i + 1) 0)) := fun x => c1 _ (hm.trans x.h)
      have u0 := HU.out _ (getD_mem (l := l) (i := i) (by omega))
      have u1 := HU.out _ (getD_mem hlt)
      have hlt2 : ((i : Int) + 1) < (l.length : Int) := by omega
      have hlt1 : ((i : Int)) < (l.length : Int) := by omega
      have HN := Lib.hid (fun w => RefAhead_any (l.getD i 0) (l.getD (i + 1) 0) w u0 u1)
      have HJ : Hid (0 < ahd (l.getD i 0) (l.getD (i + 1) 0) → ∀ k, k + 1 < i + 1 + 1 → 0 < ahd (l.getD k 0) (l.getD (k + 1) 0)) := Lib.hid (fun h k hk => by
        by_cases e : k = i
        · subst e; exact h
        · exact HALL.out k (by omega))
      have HX : Hid (¬ 0 < ahd (l.getD i 0) (l.getD (i + 1) 0) → riseB l = false) := Lib.hid (fun h => by
        rw [Bool.eq_false_iff]
        intro hr
        exact h ((riseB_iff l).1 hr i hlt))
      clear hall c0 c1 u0 u1 HALL
      generalize l.getD i 0 = a at *
      generalize l.getD (i + 1) 0 = c at *
      generalize ahd a c = d at *
      by_cases hd : 0 < d
      · have hb1 : ¬ d ≤ 0 := by omega
        have HJ2 := Lib.hid (HJ.out hd)
        clear HJ HX hd
        go_wp2_with fail
        refine wp_region_later wr (More.refl _) (by kernel_rfl) (by kernel_rfl) ?_
        repeat (go_big_quiet_step ((go_at_call 112; with_reducible exact calls_later_same ((HN.out _).mono fun _ _ ⟨e, h⟩ => ⟨e, h.symm⟩))))
        refine wpQuiet_nil ?_
        intro _ hw'
        obtain ⟨x9, rfl⟩ := hw'
        go_wp2
        go_roundw
        case rel => exact ⟨i + 1 + 1, by omega, Or.inl (by omega), by go_num, HJ2.out, hm.trans x9.h⟩
        case measure => simp [intOf]; omega
      · have hb1 : d ≤ 0 := by omega
        have HX2 := Lib.hid (HX.out hd)
        clear HJ HX hd
        go_wp2_with fail
        refine wp_region_later wr (More.refl _) (by kernel_rfl) (by kernel_rfl) ?_
        repeat (go_big_quiet_step ((go_at_call 112; with_reducible exact calls_later_same ((HN.out _).mono fun _ _ ⟨e, h⟩ => ⟨e, h.symm⟩))))
        refine wpQuiet_nil ?_
        intro _ hw'
        obtain ⟨x9, rfl⟩ := hw'
        go_wp2
        go_ret
        exact ⟨by rw [HX2.out]; rfl, hm.trans x9.h⟩
    · have hr : riseB l = true := (riseB_iff l).2 (fun k hk => hall k (by omega))
      have HR := Lib.hid hr
      have hlt2 : ¬ (j : Int) < (l.length : Int) := by omega
      clear hr hall
      go_wp2
      go_ret
      exact ⟨by rw [HR.out]; rfl, hm⟩
/-- The first k numbers a pair may have, as many as it has. -/
def selP (p : Int × Int) : Nat → List Int
  | 0 => []
  | k + 1 => prNT p k
def onP (p : Int × Int) : Nat → Bool
  | 0 => true
  | k + 1 => tb p.2 k
theorem selP_17 (p : Int × Int) : selP p 17 = prN p := rfl
theorem selP_on {p : Int × Int} (hp : U16 p.1) {k : Nat} (h : onP p k = true) : selP p (k + 1) = selP p k ++ [(p.1 + k) % 65536] := by
  cases k with
  | zero =>
    show prNT p 0 = _
    rw [prNT_0]
    have : (p.1 + ((0 : Nat) : Int)) % 65536 = p.1 := by obtain ⟨h0, h1⟩ := hp; omega
    rw [this]; rfl
  | succ k =>
    show prNT p (k + 1) = prNT p k ++ _
    have h' : tb p.2 k = true := h
    have e : (p.1 + ((k + 1 : Nat) : Int)) % 65536 = (p.1 + k + 1) % 65536 := by omega
    rw [prNT_succ, if_pos h', e]
theorem selP_off {p : Int × Int} {k : Nat} (h : onP p k = false) : selP p (k + 1) = selP p k := by
  cases k with
  | zero => exact absurd h (by simp [onP])
  | succ k =>
    show prNT p (k + 1) = prNT p k
    have h' : tb p.2 k = false := h
    rw [prNT_succ, h']
    simp
theorem selP_pre (p : Int × Int) (hp : U16 p.1) : ∀ (n k : Nat), k + n = 17 → ∃ t, prN p = selP p k ++ t
  | 0, k, h => ⟨[], by obtain rfl : k = 17 := by omega
                       rw [selP_17, List.append_nil]⟩
  | n + 1, k, h => by
    obtain ⟨t, ht⟩ := selP_pre p hp n (k + 1) (by omega)
    cases ho : onP p k with
    | true => exact ⟨(p.1 + k) % 65536 :: t, by rw [ht, selP_on hp ho, List.append_assoc]; rfl⟩
    | false => exact ⟨t, by rw [ht, selP_off ho]⟩
theorem prF_take (ps : List (Int × Int)) (j : Nat) (hj : j < ps.length) : prF ps = prF (ps.take j) ++ (prN (ps.getD j (0, 0)) ++ prF (ps.drop (j + 1))) := by
  have e : ps = ps.take j ++ (ps.getD j (0, 0) :: ps.drop (j + 1)) := by
    rw [List.getD_eq_getElem?_getD, List.getElem?_eq_getElem hj, Option.getD_some, ← List.drop_eq_getElem_cons hj, List.take_append_drop]
  conv => lhs; rw [e]
  show (ps.take j ++ _).flatMap prN = _
  rw [List.flatMap_append]
  rfl
/-- Where the k-th number of the j-th pair lies. -/
def posP (ps : List (Int × Int)) (j k : Nat) : Nat := (prF (ps.take j)).length + (selP (ps.getD j (0, 0)) k).length
theorem posP_on {l : List Int} {ps : List (Int × Int)} (hf : prF ps = l) {j k : Nat} (hj : j < ps.length) (hk : k ≤ 16) (hp : U16 (ps.getD j (0, 0)).1) (h : onP (ps.getD j (0, 0)) k = true) :
    posP ps j k < l.length ∧ l.getD (posP ps j k) 0 = ((ps.getD j (0, 0)).1 + k) % 65536 ∧ posP ps j (k + 1) = posP ps j k + 1 := by
  obtain ⟨t, ht⟩ := selP_pre (ps.getD j (0, 0)) hp (16 - k) (k + 1) (by omega)
  have h1 := selP_on hp h
  have h2 := prF_take ps j hj
  rw [ht, h1, hf] at h2
  have h3 : l = (prF (ps.take j) ++ selP (ps.getD j (0, 0)) k) ++ (((ps.getD j (0, 0)).1 + k) % 65536 :: (t ++ prF (ps.drop (j + 1)))) := by
    rw [h2]; simp only [List.append_assoc, List.cons_append, List.nil_append]
  have h4 : posP ps j k = (prF (ps.take j) ++ selP (ps.getD j (0, 0)) k).length := by unfold posP; rw [List.length_append]
  refine ⟨?_, ?_, ?_⟩
  · rw [h4]
    have h5 := congrArg List.length h3
    rw [List.length_append, List.length_cons] at h5
    omega
  · rw [h4]
    conv => lhs; rw [h3]
    rw [List.getD_eq_getElem?_getD, List.getElem?_append_right (Nat.le_refl _), Nat.sub_self]
    rfl
  · unfold posP
    rw [h1, List.length_append, List.length_singleton]; omega
theorem posP_off {ps : List (Int × Int)} {j k : Nat} (h : onP (ps.getD j (0, 0)) k = false) : posP ps j (k + 1) = posP ps j k := by
  unfold posP; rw [selP_off h]
theorem posP_0 (ps : List (Int × Int)) (j : Nat) : posP ps j 0 = (prF (ps.take j)).length := rfl
theorem posP_17 (ps : List (Int × Int)) (j : Nat) (hj : j < ps.length) : posP ps j 17 = (prF (ps.take (j + 1))).length := by
  unfold posP
  rw [selP_17, List.take_succ_eq_append_getElem hj, prF_snoc, List.length_append, List.getD_eq_getElem?_getD, List.getElem?_eq_getElem hj, Option.getD_some]
/-- Which bytes there are. -/
theorem psB_getD : ∀ (ps : List (Int × Int)) (j c : Nat), j < ps.length → c < 4 → (psB ps).getD (4 * j + c) 0 = (prB (ps.getD j (0, 0))).getD c 0
  | [], _, _, h, _ => absurd h (by simp)
  | p :: ps, 0, c, _, hc => by
    rw [psB_cons, List.getD_eq_getElem?_getD, List.getElem?_append_left (by rw [prB_len]; omega)]
    simp [List.getD_eq_getElem?_getD]
  | p :: ps, j + 1, c, h, hc => by
    rw [psB_cons, List.getD_eq_getElem?_getD, List.getElem?_append_right (by rw [prB_len]; omega), prB_len]
    have := psB_getD ps j c (by simpa using h) hc
    rw [List.getD_eq_getElem?_getD] at this
    rw [show 4 * (j + 1) + c - 4 = 4 * j + c by omega, this]
    rfl
theorem prB_hi (p : Int × Int) (h1 : U16 p.1) (h2 : U16 p.2) : prB p = [p.1 / 256, p.1 % 256, p.2 / 256, p.2 % 256] := by
  have key : ∀ x : Int, U16 x → bysA x 2 = [x / 256, x % 256] := by
    intro x hx
    obtain ⟨h0, h1⟩ := hx
    rw [bysA_pos _ _ (by decide)]
    show bys x (1 + 1) = _
    have e0 : by8 x 0 = x % 256 := by unfold by8; simp
    have e1 : by8 x 1 = x / 256 := by
      unfold by8
      show x / 256 % 256 = _
      omega
    rw [bys_succ, bys_succ x 0, e0, e1]
    rfl
  unfold prB
  rw [key _ h1, key _ h2]
  rfl
theorem msgB_getD (l : List Int) (j c : Nat) (hj : j < (pairsF l).length) (hc : c < 4) :
    (msgB ⟨3, 0, 0, [], l⟩).getD (8 + 4 * j + c) 0 = (prB ((pairsF l).getD j (0, 0))).getD c 0 := by
  have e : msgB ⟨3, 0, 0, [], l⟩ = [0, 0, 0, 0, 0, 0, 0, 0] ++ psB (pairsF l) := by
    unfold msgB
    show bysA 0 4 ++ (bysA 0 4 ++ ([] ++ _)) = _
    have : bysA 0 4 = [0, 0, 0, 0] := by decide +kernel
    rw [this]; rfl
  rw [e, List.getD_eq_getElem?_getD, List.getElem?_append_right (by simp; omega), ← psB_getD _ j c hj hc, List.getD_eq_getElem?_getD]
  congr 2
  simp; omega
end Go.Proofs.Ytlnikmcimmnbmaa
