/- Packets: how they read; Right, Control, large, own. -/
import Derived.Test.YtlnikmcimmnbmaaHeadP
import Derived.Test.YtlnikmcimmnbmaaRdR
import Derived.Test.YtlnikmcimmnbmaaTree
import Derived.Test.YtlnikmcimmnbmaaRowS
namespace Go.Proofs.Ytlnikmcimmnbmaa
set_option linter.unusedSimpArgs false
set_option linter.unusedVariables false
open Go.RowKit Go.ChangeShapes
set_option maxRecDepth 100000

/-- A packet's slices read as its lists. -/
structure PkS (w : World) (vs ve vp : Value) (p : Pk) : Prop where
  s : SlI .u32 w vs p.ss
  e : SlI .u8 w ve p.ex
  l : SlI .u8 w vp p.pl
theorem PkS.keep {w w' : World} {vs ve vp : Value} {p : Pk} (h : PkS w vs ve vp p) (m : More w w') : PkS w' vs ve vp p := ⟨h.s.keep m, h.e.keep m, h.l.keep m⟩
def RPk : Reader Pk := fun w cs p => ∃ vs ve vp, cs = [.bool p.mr, .int .u8 p.ty, .int .u16 p.sq, .int .u32 p.st, .int .u32 p.sc, vs, .bool p.has, .int .u16 p.pr, ve, vp] ∧ PkS w vs ve vp p ∧ PkOK p
theorem keepsPk : Keeps RPk := fun _ _ _ _ m ⟨vs, ve, vp, h1, h2, h3⟩ => ⟨vs, ve, vp, h1, h2.keep m, h3⟩
def THd : Reader (Bool × Int × Int × Int × Int × Unit) := RCons 1 RBool (RCons 1 (RInt .u8) (RCons 1 (RInt .u16) (RCons 1 (RInt .u32) (RCons 1 (RInt .u32) RNil))))
theorem opensHd : Opens Try.prog 54 THd :=
  Opens.struct Try.underlying54 (by kernel_rfl) (OpensF.cons rfl (by kernel_rfl) (Opens.bool Try.underlying4) (OpensF.cons rfl (by kernel_rfl) (Opens.int Try.underlying5) (OpensF.cons rfl (by kernel_rfl) (Opens.int Try.underlying52) (OpensF.cons rfl (by kernel_rfl) (Opens.int Try.underlying22) (OpensF.cons rfl (by kernel_rfl) (Opens.int Try.underlying22) OpensF.nil)))))
def TPk : Reader ((Bool × Int × Int × Int × Int × Unit) × List Int × Bool × Int × List Int × List Int × Unit) := RCons 5 THd (RCons 1 (RSl 1 (RInt .u32)) (RCons 1 RBool (RCons 1 (RInt .u16) (RCons 1 (RSl 1 (RInt .u8)) (RCons 1 (RSl 1 (RInt .u8)) RNil)))))
theorem u32_of_wf {l : List Int} (h : ∀ n ∈ l, (Lit.int .u32 n).wf = true) : ∀ i, U32 (l.getD i 0) := fun i => by
  by_cases hi : i < l.length
  · have := bounds_u32 (h l[i] (List.getElem_mem hi))
    rw [List.getD_eq_getElem?_getD, List.getElem?_eq_getElem hi]
    exact this
  · rw [List.getD_eq_getElem?_getD, List.getElem?_eq_none (by omega)]
    exact ⟨by decide, by decide⟩
theorem pk_of_t {w : World} {cs : List Value} {y : (Bool × Int × Int × Int × Int × Unit) × List Int × Bool × Int × List Int × List Int × Unit} (hl : cs.length = 10) (h : TPk w cs y) : ∃ z, RPk w cs z := by
  match cs, hl with
  | [k0, k1, k2, k3, k4, k5, k6, k7, k8, k9], _ =>
    obtain ⟨⟨r0, ⟨r1, b1⟩, ⟨r2, b2⟩, ⟨r3, b3⟩, ⟨r4, b4⟩, _⟩, ⟨v5, r5, s5⟩, r6, ⟨r7, b7⟩, ⟨v8, r8, s8⟩, ⟨v9, r9, s9⟩, _⟩ := h
    simp [RBool] at r0 r1 r2 r3 r4 r5 r6 r7 r8 r9
    subst r0 r1 r2 r3 r4 r5 r6 r7 r8 r9
    exact ⟨⟨_, _, _, _, _, _, _, _, _, _⟩, _, _, _, rfl, ⟨s5.ints.1, s8.ints.1, s9.ints.1⟩, ⟨bounds_u8 b1, bounds_u16 b2, bounds_u32 b3, bounds_u32 b4, u32_of_wf s5.ints.2, bounds_u16 b7, Byt.of_wf s8.ints.2, Byt.of_wf s9.ints.2⟩⟩
theorem opensPk : Opens Try.prog 57 RPk := fun H enc w base spare held fuel cs x hx => by
  obtain ⟨y, hy⟩ := (Opens.struct (R := TPk) Try.underlying57 (by kernel_rfl) (OpensF.cons rfl (by kernel_rfl) opensHd (OpensF.cons rfl (by kernel_rfl) (Opens.sl Try.underlying55 (by kernel_rfl) (by decide) (Opens.int Try.underlying22)) (OpensF.cons rfl (by kernel_rfl) (Opens.bool Try.underlying4) (OpensF.cons rfl (by kernel_rfl) (Opens.int Try.underlying52) (OpensF.cons rfl (by kernel_rfl) (Opens.sl Try.underlying28 (by kernel_rfl) (by decide) (Opens.int Try.underlying5)) (OpensF.cons rfl (by kernel_rfl) (Opens.sl Try.underlying28 (by kernel_rfl) (by decide) (Opens.int Try.underlying5)) OpensF.nil))))))) H enc w base spare held fuel cs x hx
  refine pk_of_t ?_ hy
  obtain ⟨_, _, _, _, hl, _⟩ := DataW.trod_struct Try.underlying57 hx
  rw [hl]
  kernel_rfl
/-- Sizes that are looked at. -/
structure PkSm (p : Pk) : Prop where
  s : p.ss.length ≤ 1000000
  e : p.ex.length ≤ 1000000
  l : p.pl.length ≤ 1000000
set_option maxHeartbeats 1000000 in
theorem SizeH_any (p : Pk) (vs ve vp : Value) (w : World) (h : PkS w vs ve vp p) (hm : PkSm p) :
    Calls Try.prog 96 #[.agg #[.bool p.mr, .int .u8 p.ty, .int .u16 p.sq, .int .u32 p.st, .int .u32 p.sc, vs, .bool p.has, .int .u16 p.pr, ve, vp]] w fun e w' => e = .returned (.int .i64 (sizeH p)) ∧ More w w' := by
  obtain ⟨⟨os, ks, rfl, _⟩, ⟨oe, ke, rfl, _⟩, ⟨ol, kl, rfl, _⟩⟩ := h
  obtain ⟨m1, m2, m3⟩ := hm
  have hd : sizeH p = 12 + 4 * (p.ss.length : Int) + (p.pl.length : Int) + if p.has then 4 + (p.ex.length : Int) else 0 := rfl
  rw [hd]
  clear hd
  obtain ⟨mr, ty, sq, st, sc, ss, has, pr, ex, pl⟩ := p
  simp only at *
  generalize ss.length = a at *
  generalize ex.length = b at *
  generalize pl.length = c at *
  cases has with
  | true =>
    go_enter Try.func96, Try.ntmps96
    go_wp2
    go_ret
    exact ⟨ret_int (by simp only [if_true]; try omega), More.alloc _ _⟩
  | false =>
    go_enter Try.func96, Try.ntmps96
    go_wp2
    go_ret
    exact ⟨ret_int (by simp only [Bool.false_eq_true, if_false]; try omega), More.alloc _ _⟩
set_option maxHeartbeats 4000000 in
theorem RightH_any (p : Pk) (vs ve vp : Value) (w : World) (h : PkS w vs ve vp p) (hm : PkSm p) :
    Calls Try.prog 32 #[.agg #[.bool p.mr, .int .u8 p.ty, .int .u16 p.sq, .int .u32 p.st, .int .u32 p.sc, vs, .bool p.has, .int .u16 p.pr, ve, vp]] w fun e w' => e = .returned (.bool (rightH p)) ∧ More w w' := by
  have HS := Lib.hid h
  have hri := rightH_iff p
  have HSZ := Lib.hid (fun w' h' => SizeH_any p vs ve vp w' h' hm)
  obtain ⟨⟨os, ks, rfl, _⟩, ⟨oe, ke, rfl, hce⟩, ⟨ol, kl, rfl, _⟩⟩ := h
  clear hce
  obtain ⟨m1, m2, m3⟩ := hm
  obtain ⟨SZ, hSZ⟩ : ∃ SZ, sizeH p = SZ := ⟨_, rfl⟩
  rw [hSZ] at hri
  have HZ := Lib.hid hSZ
  clear hSZ
  obtain ⟨R, hR⟩ : ∃ R, rightH p = R := ⟨_, rfl⟩
  rw [hR] at hri ⊢
  clear hR
  obtain ⟨mr, ty, sq, st, sc, ss, has, pr, ex, pl⟩ := p
  simp only at *
  have hexl : ex = [] ↔ ex.length = 0 := List.length_eq_zero_iff.symm
  rw [hexl] at hri
  clear hexl
  by_cases h1 : ty ≤ 127
  · by_cases h2 : (ss.length : Int) ≤ 15
    · by_cases h3 : has = false ∧ ¬ (pr = 0)
      · obtain ⟨rfl, h3⟩ := h3
        have HR : Hid (R = false) := Lib.hid (by
          cases R with
          | false => rfl
          | true => exact absurd ((hri.1 rfl).2.2.1 rfl).1 h3)
        have hq : (pr != 0) = true := by simpa using h3
        clear hri h3
        go_enter Try.func32, Try.ntmps32
        go_wp2_with (go_at_call 96; ((with_reducible refine (HSZ.out _ (HS.out.keep (More.alloc _ _))).mono ?_); rintro e w2 ⟨rfl, m2⟩; rw [HZ.out]; have M2 := Lib.hid m2; clear m2))
        go_ret
        exact ⟨by rw [HR.out]; first | rfl | (simp; omega), by first | exact More.alloc _ _ | exact (More.alloc _ _).trans M2.out⟩
      · by_cases h4 : has = false ∧ ¬ (ex.length = 0)
        · obtain ⟨rfl, h4⟩ := h4
          have HR : Hid (R = false) := Lib.hid (by
            cases R with
            | false => rfl
            | true => exact absurd ((hri.1 rfl).2.2.1 rfl).2 h4)
          obtain rfl : pr = 0 := by
            by_cases e : pr = 0
            · exact e
            · exact absurd ⟨rfl, e⟩ h3
          have hq : (0 : Int) < (ex.length : Int) := by omega
          clear hri h3 h4
          go_enter Try.func32, Try.ntmps32
          go_wp2_with (go_at_call 96; ((with_reducible refine (HSZ.out _ (HS.out.keep (More.alloc _ _))).mono ?_); rintro e w2 ⟨rfl, m2⟩; rw [HZ.out]; have M2 := Lib.hid m2; clear m2))
          go_ret
          exact ⟨by rw [HR.out]; first | rfl | (simp; omega), by first | exact More.alloc _ _ | exact (More.alloc _ _).trans M2.out⟩
        · by_cases h5 : (ex.length : Int) % 4 = 0
          · have h5' : ((ex.length : Int)).tmod 4 = 0 := by rw [Int.tmod_eq_emod_of_nonneg (by omega)]; exact h5
            by_cases h6 : SZ ≤ 200
            · have HR : Hid (R = true) := Lib.hid (hri.2 ⟨h1, h2, fun e => ⟨by
                by_cases z : pr = 0
                · exact z
                · exact absurd ⟨e, z⟩ h3, by
                by_cases z : ex.length = 0
                · exact z
                · exact absurd ⟨e, z⟩ h4⟩, h5, h6⟩)
              clear hri h5
              cases has with
              | true =>
                clear h3 h4
                go_enter Try.func32, Try.ntmps32
                go_wp2_with (go_at_call 96; ((with_reducible refine (HSZ.out _ (HS.out.keep (More.alloc _ _))).mono ?_); rintro e w2 ⟨rfl, m2⟩; rw [HZ.out]; have M2 := Lib.hid m2; clear m2))
                go_ret
                exact ⟨by rw [HR.out]; first | rfl | (simp; omega), by first | exact More.alloc _ _ | exact (More.alloc _ _).trans M2.out⟩
              | false =>
                obtain rfl : pr = 0 := by
                  by_cases e : pr = 0
                  · exact e
                  · exact absurd ⟨rfl, e⟩ h3
                have hq : ¬ (0 : Int) < (ex.length : Int) := by
                  by_cases e : ex.length = 0
                  · omega
                  · exact absurd ⟨rfl, e⟩ h4
                clear h3 h4
                go_enter Try.func32, Try.ntmps32
                go_wp2_with (go_at_call 96; ((with_reducible refine (HSZ.out _ (HS.out.keep (More.alloc _ _))).mono ?_); rintro e w2 ⟨rfl, m2⟩; rw [HZ.out]; have M2 := Lib.hid m2; clear m2))
                go_ret
                exact ⟨by rw [HR.out]; first | rfl | (simp; omega), by first | exact More.alloc _ _ | exact (More.alloc _ _).trans M2.out⟩
            · have HR : Hid (R = false) := Lib.hid (by
                cases R with
                | false => rfl
                | true => exact absurd (hri.1 rfl).2.2.2.2 h6)
              clear hri h5
              cases has with
              | true =>
                clear h3 h4
                go_enter Try.func32, Try.ntmps32
                go_wp2_with (go_at_call 96; ((with_reducible refine (HSZ.out _ (HS.out.keep (More.alloc _ _))).mono ?_); rintro e w2 ⟨rfl, m2⟩; rw [HZ.out]; have M2 := Lib.hid m2; clear m2))
                go_ret
                exact ⟨by rw [HR.out]; first | rfl | (simp; omega), by first | exact More.alloc _ _ | exact (More.alloc _ _).trans M2.out⟩
              | false =>
                obtain rfl : pr = 0 := by
                  by_cases e : pr = 0
                  · exact e
                  · exact absurd ⟨rfl, e⟩ h3
                have hq : ¬ (0 : Int) < (ex.length : Int) := by
                  by_cases e : ex.length = 0
                  · omega
                  · exact absurd ⟨rfl, e⟩ h4
                clear h3 h4
                go_enter Try.func32, Try.ntmps32
                go_wp2_with (go_at_call 96; ((with_reducible refine (HSZ.out _ (HS.out.keep (More.alloc _ _))).mono ?_); rintro e w2 ⟨rfl, m2⟩; rw [HZ.out]; have M2 := Lib.hid m2; clear m2))
                go_ret
                exact ⟨by rw [HR.out]; first | rfl | (simp; omega), by first | exact More.alloc _ _ | exact (More.alloc _ _).trans M2.out⟩
          · have h5' : (((ex.length : Int)).tmod 4 == 0) = false := by
              rw [beq_eq_false_iff_ne, Int.tmod_eq_emod_of_nonneg (by omega)]; exact h5
            have h5'' : ((ex.length : Int) % 4 == 0) = false := by rw [beq_eq_false_iff_ne]; exact h5
            have HR : Hid (R = false) := Lib.hid (by
              cases R with
              | false => rfl
              | true => exact absurd (hri.1 rfl).2.2.2.1 h5)
            clear hri h5
            cases has with
            | true =>
              clear h3 h4
              go_enter Try.func32, Try.ntmps32
              go_wp2_with (go_at_call 96; ((with_reducible refine (HSZ.out _ (HS.out.keep (More.alloc _ _))).mono ?_); rintro e w2 ⟨rfl, m2⟩; rw [HZ.out]; have M2 := Lib.hid m2; clear m2))
              go_ret
              exact ⟨by rw [HR.out]; first | rfl | (simp; omega), by first | exact More.alloc _ _ | exact (More.alloc _ _).trans M2.out⟩
            | false =>
              obtain rfl : pr = 0 := by
                by_cases e : pr = 0
                · exact e
                · exact absurd ⟨rfl, e⟩ h3
              have hq : ¬ (0 : Int) < (ex.length : Int) := by
                by_cases e : ex.length = 0
                · omega
                · exact absurd ⟨rfl, e⟩ h4
              clear h3 h4
              go_enter Try.func32, Try.ntmps32
              go_wp2_with (go_at_call 96; ((with_reducible refine (HSZ.out _ (HS.out.keep (More.alloc _ _))).mono ?_); rintro e w2 ⟨rfl, m2⟩; rw [HZ.out]; have M2 := Lib.hid m2; clear m2))
              go_ret
              exact ⟨by rw [HR.out]; first | rfl | (simp; omega), by first | exact More.alloc _ _ | exact (More.alloc _ _).trans M2.out⟩
    · have HR : Hid (R = false) := Lib.hid (by
        cases R with
        | false => rfl
        | true => exact absurd (hri.1 rfl).2.1 h2)
      have hq : (15 : Int) < (ss.length : Int) := by omega
      clear hri
      go_enter Try.func32, Try.ntmps32
      go_wp2_with (go_at_call 96; ((with_reducible refine (HSZ.out _ (HS.out.keep (More.alloc _ _))).mono ?_); rintro e w2 ⟨rfl, m2⟩; rw [HZ.out]; have M2 := Lib.hid m2; clear m2))
      go_ret
      exact ⟨by rw [HR.out]; first | rfl | (simp; omega), by first | exact More.alloc _ _ | exact (More.alloc _ _).trans M2.out⟩
  · have HR : Hid (R = false) := Lib.hid (by
      cases R with
      | false => rfl
      | true => exact absurd (hri.1 rfl).1 h1)
    clear hri
    go_enter Try.func32, Try.ntmps32
    go_wp2_with (go_at_call 96; ((with_reducible refine (HSZ.out _ (HS.out.keep (More.alloc _ _))).mono ?_); rintro e w2 ⟨rfl, m2⟩; rw [HZ.out]; have M2 := Lib.hid m2; clear m2))
    go_ret
    exact ⟨by rw [HR.out]; first | rfl | (simp; omega), by first | exact More.alloc _ _ | exact (More.alloc _ _).trans M2.out⟩
/-- Is it no media? -/
def ctlH (b : List Int) : Bool := decide (2 ≤ b.length) && decide (192 ≤ b.getD 1 0) && decide (b.getD 1 0 ≤ 223)
set_option maxHeartbeats 1000000 in
theorem CtlH_any (v : Value) (b : List Int) (w : World) (sl : SlI .u8 w v b) :
    Calls Try.prog 36 #[v] w fun e w' => e = .returned (.bool (ctlH b)) ∧ w = w' := by
  obtain ⟨ob, cb, rfl, hlv, hel, _⟩ := sl
  have hd : ctlH b = (decide (2 ≤ b.length) && decide (192 ≤ b.getD 1 0) && decide (b.getD 1 0 ≤ 223)) := rfl
  rw [hd]
  clear hd
  by_cases h2 : 2 ≤ b.length
  · obtain ⟨bb, off, rfl, hbw, hc⟩ := hel 1 (by omega)
    have h2i : (2 : Int) ≤ (b.length : Int) := by omega
    have h1n : 1 < b.length := by omega
    rw [decide_eq_true h2]
    clear hel
    generalize b.getD 1 0 = x at *
    by_cases h3 : 192 ≤ x
    · by_cases h4 : x ≤ 223
      · go_enter Try.func36, Try.ntmps36
        go_wp2
        go_ret
        simp [h3, h4]
      · go_enter Try.func36, Try.ntmps36
        go_wp2
        go_ret
        simp [h3, h4]
    · go_enter Try.func36, Try.ntmps36
      go_wp2
      go_ret
      simp [h3]
      try omega
  · have h2i : ¬ (2 : Int) ≤ (b.length : Int) := by omega
    have h2n : b.length < 2 := by omega
    rw [decide_eq_false h2]
    clear hel
    go_enter Try.func36, Try.ntmps36
    go_wp2
    go_ret
    simp
set_option maxHeartbeats 1000000 in
theorem RCtlH_any (v : Value) (b : List Int) (w : World) (sl : SlI .u8 w v b) :
    Calls Try.prog 37 #[v] w fun e w' => e = .returned (.bool (ctlH b)) ∧ w = w' := by
  obtain ⟨ob, cb, rfl, hlv, hel, _⟩ := sl
  have hd : ctlH b = (decide (2 ≤ b.length) && decide (192 ≤ b.getD 1 0) && decide (b.getD 1 0 ≤ 223)) := rfl
  rw [hd]
  clear hd
  by_cases h2 : 2 ≤ b.length
  · obtain ⟨bb, off, rfl, hbw, hc⟩ := hel 1 (by omega)
    have h2i : (2 : Int) ≤ (b.length : Int) := by omega
    have h1n : 1 < b.length := by omega
    rw [decide_eq_true h2]
    clear hel
    generalize b.getD 1 0 = x at *
    by_cases h3 : 192 ≤ x
    · by_cases h4 : x ≤ 223
      · go_enter Try.func37, Try.ntmps37
        go_wp2
        go_ret
        simp [h3, h4]
      · go_enter Try.func37, Try.ntmps37
        go_wp2
        go_ret
        simp [h3, h4]
    · go_enter Try.func37, Try.ntmps37
      go_wp2
      go_ret
      simp [h3]
      try omega
  · have h2i : ¬ (2 : Int) ≤ (b.length : Int) := by omega
    have h2n : b.length < 2 := by omega
    rw [decide_eq_false h2]
    clear hel
    go_enter Try.func37, Try.ntmps37
    go_wp2
    go_ret
    simp
end Go.Proofs.Ytlnikmcimmnbmaa
