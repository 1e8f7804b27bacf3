/- The law FeedPairs, walked: the pairs. -/
import Derived.Test.YtlnikmcimmnbmaaFeedO
import Derived.Test.YtlnikmcimmnbmaaFrame
namespace Go.Proofs.Ytlnikmcimmnbmaa
set_option linter.unusedSimpArgs false
set_option linter.unusedVariables false
open Go.RowKit
set_option maxRecDepth 100000

theorem pairM_ok {l : List Int} (hu : ∀ x ∈ l, U16 x) : MsgOK (⟨3, 0, 0, [], l⟩ : Msg) := ⟨⟨Int.le_refl 0, show (0 : Int) ≤ 4294967295 by decide⟩, ⟨Int.le_refl 0, show (0 : Int) ≤ 4294967295 by decide⟩, fun a h => (by cases h), hu⟩
theorem pairM_right {l : List Int} (h1 : 1 ≤ l.length) (h2 : riseB l = true) : rightM ⟨3, 0, 0, [], l⟩ = decide ((pairsF l).length ≤ 47) := by
  unfold rightM
  rw [if_neg (show ¬ (3 : Int) = 1 by decide), if_neg (show ¬ (3 : Int) = 2 by decide), if_pos rfl, decide_eq_decide]
  simp only [h1, h2, true_and]
theorem FeedPairs_no (l : List Int) (ol : Option Addr) (kl : Nat) (w : World) (sl : SlI .u16 w (.slice ol l.length kl) l) (hu : ∀ x ∈ l, U16 x) (h1 : 1 ≤ l.length) (h2 : l.length ≤ 300) (h3 : riseB l = true) (h4 : rightM ⟨3, 0, 0, [], l⟩ = false) :
    Calls Try.prog 9 #[.slice ol l.length kl] w fun e w' => e = .returned (.bool true) ∧ More w w' := by
  have SL := Lib.hid sl
  have HU := Lib.hid hu
  have H3 := Lib.hid h3
  have h47 : ¬ (pairsF l).length ≤ 47 := by
    rw [pairM_right h1 h3] at h4
    exact of_decide_eq_false h4
  have hpc := pairs_count hu h3
  have h5 : (47 : Int) < (l.length : Int) := by omega
  have h6 : ¬ (300 : Int) < (l.length : Int) := by omega
  have h7 : ((l.length : Int) == 0) = false := by rw [beq_eq_false_iff_ne]; omega
  have HW := Lib.hid (writeM_no h4)
  have HL : Hid (l.length ≤ 100000) := Lib.hid (by omega)
  clear sl hu h3 h4 h47 hpc h1 h2
  go_enter Try.func9, Try.ntmps9
  go_wp2_with (first | (go_at_call 42; ((with_reducible refine (awake09 _).mono ?_); rintro e w1 ⟨rfl, m1⟩; have S1 := Lib.hid (SL.out.keep m1); have M1 := Lib.hid m1; clear m1)) | (go_at_call 51; ((with_reducible refine (RefRise_any l _ _ S1.out HU.out).mono ?_); rintro e w2 ⟨rfl, m2⟩; rw [H3.out]; have S2 := Lib.hid (S1.out.keep m2); have M2 := Lib.hid (M1.out.trans m2); clear m2)) | (go_at_call 46; ((with_reducible refine (Write09_any (⟨3, 0, 0, [], l⟩ : Msg) (.slice none 0 0) _ _ ⟨SlP.nil _ _ _, S2.out⟩ (pairM_ok HU.out) HL.out).mono ?_); rintro e w3 ⟨v3, rfl, s3, m3⟩; rw [HW.out]; rw [HW.out] at s3; obtain ⟨o3, k3, rfl, -⟩ := s3; have M3 := Lib.hid (M2.out.trans (m3.trans (More.alloc w3 (.cells #[.int .u8 0, .int .u8 0, .slice o3 0 k3] 30)))); clear m3)))
  go_ret
  exact ⟨rfl, M3.out⟩
/-- A pair's four bytes. -/
theorem pair_bytes {l : List Int} (hu : ∀ x ∈ l, U16 x) (h : riseB l = true) {j : Nat} (hj : j < (pairsF l).length) :
    U16 ((pairsF l).getD j (0, 0)).1 ∧ U16 ((pairsF l).getD j (0, 0)).2 ∧ ∃ y0 y1 y2 y3 : Int, U8 y0 ∧ U8 y1 ∧ U8 y2 ∧ U8 y3 ∧ (msgB ⟨3, 0, 0, [], l⟩).getD (8 + 4 * j) 0 = y0 ∧ (msgB ⟨3, 0, 0, [], l⟩).getD (8 + 4 * j + 1) 0 = y1 ∧ (msgB ⟨3, 0, 0, [], l⟩).getD (8 + 4 * j + 2) 0 = y2 ∧ (msgB ⟨3, 0, 0, [], l⟩).getD (8 + 4 * j + 3) 0 = y3 ∧ y0 * 256 + y1 = ((pairsF l).getD j (0, 0)).1 ∧ y2 * 256 + y3 = ((pairsF l).getD j (0, 0)).2 := by
  have hok := (prI_of hu h).ok ((pairsF l).getD j (0, 0)) (by rw [List.getD_eq_getElem?_getD, List.getElem?_eq_getElem hj]; exact List.getElem_mem hj)
  have g := fun c hc => msgB_getD l j c hj hc
  have g0 := g 0 (by decide)
  have g1 := g 1 (by decide)
  have g2 := g 2 (by decide)
  have g3 := g 3 (by decide)
  rw [prB_hi _ hok.1 hok.2] at g0 g1 g2 g3
  obtain ⟨⟨a1, a2⟩, ⟨b1, b2⟩⟩ := hok
  exact ⟨⟨a1, a2⟩, ⟨b1, b2⟩, ((pairsF l).getD j (0, 0)).1 / 256, ((pairsF l).getD j (0, 0)).1 % 256, ((pairsF l).getD j (0, 0)).2 / 256, ((pairsF l).getD j (0, 0)).2 % 256, ⟨by omega, by omega⟩, ⟨by omega, by omega⟩, ⟨by omega, by omega⟩, ⟨by omega, by omega⟩, g0, g1, g2, g3, by omega, by omega⟩
set_option maxHeartbeats 4000000 in
theorem FeedPairs_yes (l : List Int) (ol : Option Addr) (kl : Nat) (w : World) (sl : SlI .u16 w (.slice ol l.length kl) l) (hu : ∀ x ∈ l, U16 x) (h1 : 1 ≤ l.length) (h2 : l.length ≤ 300) (h3 : riseB l = true) (h4 : rightM ⟨3, 0, 0, [], l⟩ = true) :
    Calls Try.prog 9 #[.slice ol l.length kl] w fun e w' => e = .returned (.bool true) ∧ More w w' := by
  have SL := Lib.hid sl
  have HU := Lib.hid hu
  have H3 := Lib.hid h3
  have hpc := pairs_count hu h3
  have h6 : ¬ (300 : Int) < (l.length : Int) := by omega
  have h7 : ((l.length : Int) == 0) = false := by rw [beq_eq_false_iff_ne]; omega
  have HW : Hid (writeM ⟨3, 0, 0, [], l⟩ = ((1, 205, msgB ⟨3, 0, 0, [], l⟩, ()), 0)) := Lib.hid (writeM_yes h4)
  have HL : Hid (l.length ≤ 100000) := Lib.hid (by omega)
  have HF := Lib.hid (prI_of hu h3).flat
  obtain ⟨N, hN⟩ : ∃ N, (msgB ⟨3, 0, 0, [], l⟩).length = N := ⟨_, rfl⟩
  obtain ⟨P, hP⟩ : ∃ P, (pairsF l).length = P := ⟨_, rfl⟩
  have hNP : N = 8 + 4 * P := by rw [← hN, ← hP, msgB_len]; simp
  rw [hP] at hpc
  have HPB := Lib.hid (fun j hj => pair_bytes hu h3 (j := j) hj)
  have hq : ((N : Int) - 8).tdiv 4 = (P : Int) := by rw [hNP]; rw [show (((8 + 4 * P : Nat) : Int) - 8) = (P : Int) * 4 by omega]; exact Int.mul_tdiv_cancel _ (by decide)
  have t1 : decide (l.length < P) = false := decide_eq_false (by omega)
  have t2 : decide (17 * (P : Int) < (l.length : Int)) = false := decide_eq_false (by omega)
  have t3 : ((N : Int) != 8 + 4 * (P : Int)) = false := by rw [show (N : Int) = 8 + 4 * (P : Int) by omega]; simp
  have hb1 : (N : Int) ≤ 2000 := by omega
  have hb2 : (P : Int) ≤ 400 := by omega
  have HNN := Lib.hid hN
  have HPP := Lib.hid hP
  have HNP := Lib.hid hNP
  have HLL := Lib.hid h2
  generalize msgB ⟨3, 0, 0, [], l⟩ = B at *
  clear sl hu h3 h4 hpc h1 hNP hN hP h2
  go_enter Try.func9, Try.ntmps9
  go_wp2_with (first | (go_at_call 42; ((with_reducible refine (awake09 _).mono ?_); rintro e w1 ⟨rfl, m1⟩; have S1 := Lib.hid (SL.out.keep m1); have M1 := Lib.hid m1; clear m1)) | (go_at_call 51; ((with_reducible refine (RefRise_any l _ _ S1.out HU.out).mono ?_); rintro e w2 ⟨rfl, m2⟩; rw [H3.out]; have S2 := Lib.hid (S1.out.keep m2); have M2 := Lib.hid (M1.out.trans m2); clear m2)) | (go_at_call 46; ((with_reducible refine (Write09_any (⟨3, 0, 0, [], l⟩ : Msg) (.slice none 0 0) _ _ ⟨SlP.nil _ _ _, S2.out⟩ (pairM_ok HU.out) HL.out).mono ?_); rintro e w3 ⟨v3, rfl, s3, m3⟩; rw [HW.out]; rw [HW.out] at s3; have HB3 := Lib.hid s3; obtain ⟨o3, k3, rfl, -⟩ := s3; have HB3 : Hid (SlI .u8 w3 (.slice o3 B.length k3) B) := HB3; rw [HNN.out] at HB3 ⊢; have HB4 := Lib.hid (HB3.out.keep (More.alloc w3 (.cells #[.int .u8 1, .int .u8 205, .slice o3 N k3] 30))); have HC := Lib.hid (blk_new w3 (.cells #[.int .u8 1, .int .u8 205, .slice o3 N k3] 30)); have m3 := m3.trans (More.alloc w3 (.cells #[.int .u8 1, .int .u8 205, .slice o3 N k3] 30)); have S3 := Lib.hid (S2.out.keep m3); have M3 := Lib.hid (M2.out.trans m3); clear m3 S1 S2 M1 M2)))
  generalize hw4 : w3.alloc (.cells #[.int .u8 1, .int .u8 205, .slice o3 N k3] 30) = w4 at *
  clear hw4
  generalize w3.heap.size = BC at *
  clear HW
  go_loopw [6, 7] (fun bs ix wr => ∃ j : Nat, j ≤ P ∧ ix = .int .i64 ((8 + 4 * j : Nat) : Int) ∧ bs = .int .i64 ((posP (pairsF l) j 0 : Nat) : Int) ∧ More w4 wr) (fun _ ix _ => 2000 - (intOf ix).toNat)
  case atStart => exact ⟨0, by omega, rfl, rfl, More.refl _⟩
  case round =>
    obtain ⟨j, hj, rfl, rfl, hm⟩ := hrel
    have HM := Lib.hid hm
    obtain ⟨n, hn⟩ : ∃ n, 8 + 4 * j = n := ⟨_, rfl⟩
    have c2 : ∀ x : Later wr, x.w'.cell? ⟨BC, 2, none⟩ = some (.slice o3 N k3) := fun x => blk_cell (blk_more (hm.trans x.h) HC.out) 2 rfl
    have c2' : wr.cell? ⟨BC, 2, none⟩ = some (.slice o3 N k3) := blk_cell (blk_more hm HC.out) 2 rfl
    by_cases hlt : j < P
    · obtain ⟨u1, u2, y0, y1, y2, y3, ⟨a0, b0⟩, ⟨a1, b1⟩, ⟨a2, b2⟩, ⟨a3, b3⟩, e0, e1, e2, e3, v1, v2⟩ := HPB.out j (by have := HPP.out; omega)
      rw [hn] at e0 e1 e2 e3 ⊢
      have HNL := HNN.out
      have HNX := HNP.out
      obtain ⟨b, off, rfl, hb, z0⟩ := slI_cell HB4.out n (by omega)
      obtain ⟨b', off', e, _, z1⟩ := slI_cell HB4.out (n + 1) (by omega)
      cases e
      obtain ⟨b', off', e, _, z2⟩ := slI_cell HB4.out (n + 2) (by omega)
      cases e
      obtain ⟨b', off', e, _, z3⟩ := slI_cell HB4.out (n + 3) (by omega)
      cases e
      rw [e0] at z0
      rw [e1] at z1
      rw [e2] at z2
      rw [e3] at z3
      have q0 : ∀ x : Later wr, x.w'.cell? ⟨b, off + n, none⟩ = some (.int .u8 y0) := fun x => z0 _ (hm.trans x.h)
      have q1 : ∀ x : Later wr, x.w'.cell? ⟨b, off + (n + 1), none⟩ = some (.int .u8 y1) := fun x => z1 _ (hm.trans x.h)
      have hn0 : (n : Int) < (N : Int) := by omega
      have hn1 : (n : Int) + 1 < (N : Int) := by omega
      have hn2 : (n : Int) + 2 < (N : Int) := by omega
      have hn3 : (n : Int) + 3 < (N : Int) := by omega
      have HZ2 := Lib.hid z2
      have HZ3 := Lib.hid z3
      clear z0 z1 z2 z3 e0 e1 e2 e3 HNL HNX
      generalize hqq : (pairsF l).getD j (0, 0) = p at *
      obtain ⟨q, m⟩ := p
      simp only at v1 v2 u1 u2
      have HQQ := Lib.hid hqq
      have U1 := Lib.hid u1
      have U2 := Lib.hid u2
      clear hqq
      go_wp2_with fail
      refine wp_region_later wr (More.refl _) (by kernel_rfl) (by kernel_rfl) ?_
      repeat (go_big_quiet_step (fail))
      refine wpQuiet_nil ?_
      intro _ hw'
      obtain ⟨x9, rfl⟩ := hw'
      have hm9 := hm.trans x9.h
      clear c2 c2' q0 q1
      generalize x9.w' = w9 at *
      have c2 : ∀ x : Later w9, x.w'.cell? ⟨BC, 2, none⟩ = some (.slice (some ⟨b, off, none⟩) N k3) := fun x => blk_cell (blk_more (hm9.trans x.h) HC.out) 2 rfl
      have q2 : ∀ x : Later w9, x.w'.cell? ⟨b, off + (n + 2), none⟩ = some (.int .u8 y2) := fun x => HZ2.out _ (hm9.trans x.h)
      have q3 : ∀ x : Later w9, x.w'.cell? ⟨b, off + (n + 3), none⟩ = some (.int .u8 y3) := fun x => HZ3.out _ (hm9.trans x.h)
      go_wp2_with fail
      refine wp_region_later w9 (More.refl _) (by kernel_rfl) (by kernel_rfl) ?_
      repeat (go_big_quiet_step (fail))
      refine wpQuiet_nil ?_
      intro _ hw'
      obtain ⟨x10, rfl⟩ := hw'
      have HM10 := Lib.hid (hm9.trans x10.h)
      clear c2 q2 q3 hm hm9 HM
      generalize x10.w' = w10 at *
      go_wp2
      go_loopw [6, 10] (fun bs kx wr => ∃ k : Nat, k ≤ 17 ∧ kx = .int .u16 ((k : Nat) : Int) ∧ bs = .int .i64 ((posP (pairsF l) j k : Nat) : Int) ∧ More w10 wr) (fun _ kx _ => 20 - (intOf kx).toNat)
      case atStart => exact ⟨0, by omega, rfl, rfl, More.refl _⟩
      case round =>
        obtain ⟨k, hk, rfl, rfl, hmk⟩ := hrel
        have HMK := Lib.hid (HM10.out.trans hmk)
        have HK10 := Lib.hid hmk
        clear hmk
        have HS3 := Lib.hid (S3.out.keep HMK.out)
        by_cases hk17 : k < 17
        · have hk16 : (k : Int) ≤ 16 := by omega
          have HON := Lib.hid (posP_on HF.out (j := j) (k := k) (by have := HPP.out; omega) (by omega) (by rw [HQQ.out]; exact U1.out))
          have HOF := Lib.hid (posP_off (ps := pairsF l) (j := j) (k := k))
          rw [HQQ.out] at HON HOF
          obtain ⟨z, hz⟩ : ∃ z, posP (pairsF l) j k = z := ⟨_, rfl⟩
          rw [hz] at HON HOF ⊢
          by_cases hon : onP (q, m) k = true
          · obtain ⟨p1, p2, p3⟩ := HON.out hon
            obtain ⟨v, hv⟩ : ∃ v, (q + (k : Int)) % 65536 = v := ⟨_, rfl⟩
            rw [hv] at p2
            obtain ⟨lb, loff, e, _, cl⟩ := slI_cell HS3.out z p1
            subst e
            have hlc : wr.cell? ⟨lb, loff + z, none⟩ = some (.int .u16 v) := by rw [← p2]; exact cl _ (More.refl _)
            have hzl : (z : Int) < (l.length : Int) := by omega
            have hzl2 : ¬ (l.length : Int) ≤ (z : Int) := by omega
            have hzb : (z : Int) ≤ 300 := by have := HLL.out; omega
            have hwv : IntKind.u16.wrap (q + (k : Int)) = v := by rw [IntKind.wrap_u16]; exact hv
            have P3 := Lib.hid p3
            clear HON HOF p2 cl hv p1 p3 hz
            rcases Nat.eq_zero_or_pos k with hk0 | hk0
            · subst hk0
              have hwv0 : v = q := by rw [← hwv, IntKind.wrap_u16]; have := U1.out.1; have := U1.out.2; simp; omega
              subst hwv0
              clear hwv
              go_wp2
              go_roundw
              case rel => exact ⟨1, by omega, rfl, by rw [P3.out]; go_num, HK10.out⟩
              case measure => simp [intOf]
            · obtain ⟨i, rfl⟩ : ∃ i, k = i + 1 := ⟨k - 1, by omega⟩
              have hcond := onP_cond (q, m) U2.out i
              rw [hon] at hcond
              simp only [Bool.not_true] at hcond
              have hi1 : IntKind.u16.wrap ((i : Int) + 1 - 1) = i := by rw [IntKind.wrap_u16]; omega
              have hwv2 : IntKind.u16.wrap (q + ((i : Int) + 1)) = v := by rw [← hwv]; congr 1
              clear hwv
              go_wp2
              go_roundw
              case rel => exact ⟨i + 1 + 1, by omega, by go_num, by rw [P3.out]; go_num, HK10.out⟩
              case measure => simp [intOf]; omega
          · have hof : onP (q, m) k = false := by simpa using hon
            have P3 := Lib.hid (HOF.out hof)
            clear HON HOF hz
            obtain ⟨i, rfl⟩ : ∃ i, k = i + 1 := ⟨k - 1, by
              rcases Nat.eq_zero_or_pos k with hk0 | hk0
              · subst hk0; exact absurd rfl hon
              · omega⟩
            have hcond := onP_cond (q, m) U2.out i
            rw [hof] at hcond
            simp only [Bool.not_false] at hcond
            have hi1 : IntKind.u16.wrap ((i : Int) + 1 - 1) = i := by rw [IntKind.wrap_u16]; omega
            clear hon hof
            go_wp2
            go_roundw
            case rel => exact ⟨i + 1 + 1, by omega, by go_num, by rw [P3.out], HK10.out⟩
            case measure => simp [intOf]; omega
        · obtain rfl : k = 17 := by omega
          have HP17 := Lib.hid (posP_17 (pairsF l) j (by have := HPP.out; omega))
          go_wp2
          go_roundw
          case rel => exact ⟨j + 1, by omega, by subst hn; go_num, by rw [HP17.out]; rfl, HMK.out⟩
          case measure => subst hn; simp [intOf]; omega
    · obtain rfl : j = P := by omega
      have hz : posP (pairsF l) j 0 = l.length := by rw [posP_0, ← HPP.out, List.take_length, HF.out]
      have hnlt : ¬ ((8 + 4 * j : Nat) : Int) < (N : Int) := by have := HNP.out; omega
      rw [hn] at hnlt ⊢
      rw [hz]
      have HS3 := Lib.hid (M3.out.trans hm)
      go_wp2
      go_ret
      exact ⟨rfl, HS3.out⟩
theorem FeedPairs_law (l : List Int) (v : Value) (w : World) (sl : SlI .u16 w v l) (hu : ∀ x ∈ l, U16 x) :
    Calls Try.prog 9 #[v] w fun e w' => e = .returned (.bool true) ∧ More w w' := by
  have SL := Lib.hid sl
  obtain ⟨oa, cap, rfl, -⟩ := sl
  by_cases h1 : 300 < l.length
  · exact FeedPairs_short l oa cap w SL.out hu (Or.inl h1)
  · cases h2 : riseB l with
    | false => exact FeedPairs_short l oa cap w SL.out hu (Or.inr (Or.inl ⟨by omega, h2⟩))
    | true =>
      by_cases h3 : l = []
      · exact FeedPairs_short l oa cap w SL.out hu (Or.inr (Or.inr ⟨by omega, h2, h3⟩))
      · have h4 : 1 ≤ l.length := List.length_pos_iff.2 h3
        cases h5 : rightM ⟨3, 0, 0, [], l⟩ with
        | false => exact FeedPairs_no l oa cap w SL.out hu h4 (by omega) h2 h5
        | true => exact FeedPairs_yes l oa cap w SL.out hu h4 (by omega) h2 h5
theorem FeedPairs_lawF (l : List Int) (v : Value) (w : World) (sl : SlI .u16 w v l) (hw : ∀ x ∈ l, (Lit.int .u16 x).wf = true) :
    Calls Try.prog 9 #[v] w fun e w' => e = .returned (.bool true) ∧ More w w' :=
  FeedPairs_law l v w sl fun x hx => bounds_u16 (hw x hx)
end Go.Proofs.Ytlnikmcimmnbmaa
