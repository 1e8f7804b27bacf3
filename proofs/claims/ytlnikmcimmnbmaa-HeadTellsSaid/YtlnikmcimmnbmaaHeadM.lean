/- Packets: the document's Read, the long way. -/
import Derived.Test.YtlnikmcimmnbmaaHeadL
import Derived.Deep.Cut
import Derived.Deep.CutRange
import Derived.Deep.CutBlock
namespace Go.Proofs.Ytlnikmcimmnbmaa
set_option linter.unusedSimpArgs false
set_option linter.unusedVariables false
open Go.RowKit
set_option maxRecDepth 100000

set_option maxHeartbeats 8000000 in
theorem RReadH_main (v0 : Value) (f g : Int) (r : List Int) (w : World) (sl : SlI .u8 w v0 (f :: g :: r)) (hb : Byt (f :: g :: r)) (hl : ¬ (200 : Int) < (f :: g :: r).length) (h12 : ¬ ((f :: g :: r).length : Int) < 12) (hf : ¬ (f < 128 ∨ 191 < f)) :
    Calls Try.prog 31 #[v0] w (ReadPost (readHD (f :: g :: r)) w) := by
  obtain ⟨i0, hi', hz0, hz1, hz2⟩ := info_parts (P := Try.prog) (e := 22) (z := .int .u32 0) (size := 1) (bytes := 4) (by kernel_rfl)
  obtain ⟨f0, g0, hr⟩ := byt2 hb
  obtain ⟨hfH, hgH, hs2⟩ := fH_cons f g r f0 g0
  have hrd : readHD (f :: g :: r) = endH (f :: g :: r) (restH f (s5H (f :: g :: r))) := by
    have h5 : s5H (f :: g :: r) = ((f :: g :: r).drop 12, 0) := by rw [s5H_adv, adv_long _ _ (by omega)]
    unfold readHD
    rw [if_neg hl, if_neg h12, hfH, if_neg hf, h5]
  have SLW := Lib.hid sl
  obtain ⟨bb, off, cb, rfl, hbw, d0, d1⟩ := two_first sl
  obtain ⟨b, hbb⟩ : ∃ b, f :: g :: r = b := ⟨_, rfl⟩
  have hlen : (r.length : Int) + 2 = (b.length : Int) := by rw [← hbb]; simp only [List.length_cons]; omega
  rw [hbb] at hb hl h12 hrd hfH hgH hs2 SLW ⊢
  have D0 := Lib.hid d0
  have D1 := Lib.hid d1
  have b2 : Byt (s2H b).1 := by rw [hs2]; exact hr
  have b3 : Byt (s3H b).1 := b2.drop _
  have b4 : Byt (s4H b).1 := b3.drop _
  have u3 := u16_num b2
  have u4 := u32_num b3
  have u5 := u32_num b4
  obtain ⟨sq, hsq⟩ : ∃ x, num (tkB (s2H b).1 2) = x := ⟨_, rfl⟩
  obtain ⟨st, hst⟩ : ∃ x, num (tkB (s3H b).1 4) = x := ⟨_, rfl⟩
  obtain ⟨sc, hsc⟩ : ∃ x, num (tkB (s4H b).1 4) = x := ⟨_, rfl⟩
  have E3 := Lib.hid hsq
  have E4 := Lib.hid hst
  have E5 := Lib.hid hsc
  rw [hsq] at u3
  rw [hst] at u4
  rw [hsc] at u5
  obtain ⟨sq0, sq1⟩ := u3
  obtain ⟨st0, st1⟩ := u4
  obtain ⟨sc0, sc1⟩ := u5
  obtain ⟨GM, hGM⟩ : ∃ GM, g % 128 = GM := ⟨_, rfl⟩
  have hmk : ∀ x l, mkH b x l = ⟨decide (128 ≤ g), GM, sq, st, sc, x.1, bit f 16, x.2.1, x.2.2, l⟩ := fun x l => by unfold mkH bit; rw [hfH, hgH, hsq, hst, hsc, hGM]
  have hen : ∀ x, endH b x = if (padH f x.2).2 = 0 then (mkH b x.1 (padH f x.2).1, 0) else (pk0, (padH f x.2).2) := fun x => by unfold endH; rw [hfH]
  obtain ⟨S6, hS6⟩ : ∃ S6, s5H b = S6 := ⟨_, rfl⟩
  rw [hS6] at hrd
  obtain ⟨X, hX⟩ : ∃ X, restH f S6 = X := ⟨_, rfl⟩
  rw [hX] at hrd
  obtain ⟨⟨L7, P7, X7⟩, S8⟩ := X
  have hx0 : (L7 = (rdSs (f % 16).toNat S6).1) ∧ (bit f 16 = true → P7 = (extS (rdSs (f % 16).toNat S6).2).1.1 ∧ X7 = (extS (rdSs (f % 16).toNat S6).2).1.2 ∧ S8 = (extS (rdSs (f % 16).toNat S6).2).2) ∧ (bit f 16 = false → P7 = 0 ∧ X7 = [] ∧ S8 = (rdSs (f % 16).toNat S6).2) := by
    unfold restH at hX
    unfold bit
    by_cases h1 : f / 16 % 2 = 1
    · rw [if_pos h1] at hX
      cases hX
      simp [h1]
    · rw [if_neg h1] at hX
      cases hX
      simp [h1]
  clear hX
  have hpad : padH f S8 = if ¬ S8.2 = 0 then ([], S8.2) else if bit f 32 = true then (if (unpadH S8.1).2 then ((unpadH S8.1).1, 0) else ([], 2)) else (S8.1, 0) := by unfold padH bit; simp only [decide_eq_true_eq]
  have hfb : (f / 16 % 2 == 1) = bit f 16 := by unfold bit; by_cases h : f / 16 % 2 = 1 <;> simp [h]
  have hfc : (f / 32 % 2 == 1) = bit f 32 := by unfold bit; by_cases h : f / 32 % 2 = 1 <;> simp [h]
  obtain ⟨FH, hFH⟩ : ∃ FH, bit f 16 = FH := ⟨_, rfl⟩
  obtain ⟨FP, hFP⟩ : ∃ FP, bit f 32 = FP := ⟨_, rfl⟩
  rw [hFH] at hx0 hfb
  rw [hFP] at hfc hpad
  obtain ⟨QR, hQR, q1, q2, q3, q4⟩ : ∃ QR : Pk × Int, readHD b = QR ∧ (¬ S8.2 = 0 → QR = (pk0, S8.2)) ∧ (S8.2 = 0 → FP = false → QR = (⟨decide (128 ≤ g), GM, sq, st, sc, L7, FH, P7, X7, S8.1⟩, 0)) ∧ (S8.2 = 0 → FP = true → (unpadH S8.1).2 = true → QR = (⟨decide (128 ≤ g), GM, sq, st, sc, L7, FH, P7, X7, (unpadH S8.1).1⟩, 0)) ∧ (S8.2 = 0 → FP = true → (unpadH S8.1).2 = false → QR = (pk0, 2)) := by
    refine ⟨_, rfl, ?_, ?_, ?_, ?_⟩
    · intro h
      rw [hrd, hen, hpad, if_pos h]
      simp only
      rw [if_neg h]
    · intro h h'
      have hp : padH f S8 = (S8.1, 0) := by rw [hpad]; simp [h, h']
      rw [hrd, hen, hmk, hFH]
      simp only
      rw [hp, if_pos rfl]
    · intro h h' h''
      have hp : padH f S8 = ((unpadH S8.1).1, 0) := by rw [hpad]; simp [h, h', h'']
      rw [hrd, hen, hmk, hFH]
      simp only
      rw [hp, if_pos rfl]
    · intro h h' h''
      have hp : padH f S8 = ([], 2) := by rw [hpad]; simp [h, h', h'']
      rw [hrd, hen, hmk, hFH]
      simp only
      rw [hp, if_neg (by decide)]
  rw [hQR]
  have Q1 := Lib.hid q1
  have Q2 := Lib.hid q2
  have Q3 := Lib.hid q3
  have Q4 := Lib.hid q4
  clear q1 q2 q3 q4 hQR
  obtain ⟨NS, hNS⟩ : ∃ NS : Nat, f % 16 = (NS : Int) := ⟨(f % 16).toNat, by omega⟩
  have hns15 : NS ≤ 15 := by omega
  have hnst : (f % 16).toNat = NS := by omega
  rw [hnst] at hx0
  have HX0 := Lib.hid hx0
  have HBY := Lib.hid hb
  have HS2 := Lib.hid hs2
  have HS6 := Lib.hid hS6
  obtain ⟨f0, f1⟩ := f0
  obtain ⟨g0, g1⟩ := g0
  have hl2 : ¬ (200 : Int) < (r.length : Int) + 2 := by omega
  have h122 : ¬ (r.length : Int) + 2 < 12 := by omega
  have hf1 : ¬ f < 128 := by omega
  have hf2 : ¬ 191 < f := by omega
  have hn1 : 1 < r.length + 2 := by omega
  have hn0 : 0 < r.length + 2 := by omega
  have hb6 : b.length ≤ 1000000 := by omega
  have hb2 : 2 ≤ b.length := by omega
  have hW7 : w.heap.size + 1 < (((w.alloc (.cells #[.bool false, .int .u8 0, .int .u16 0, .int .u32 0, .int .u32 0, .slice none 0 0, .bool false, .int .u16 0, .slice none 0 0, .slice none 0 0] 64)).drewN 1).alloc (.cells #[.bool (decide (128 ≤ g)), .int .u8 GM, .int .u16 0, .int .u32 0, .int .u32 0, .slice none 0 0, .bool false, .int .u16 0, .slice none 0 0, .slice none 0 0] 64)).heap.size := by simp
  have HBR : Hid (b = f :: g :: r) := Lib.hid hbb.symm
  clear hx0 hb hs2 hS6 hpad hFH hFP hnst hf hl h12 hr hbb hrd hfH hgH hen hmk sl hlen b2 b3 b4 hsq hst hsc d0 d1
  have e0 := D0.out _ (More.alloc w (.cells #[.bool false, .int .u8 0, .int .u16 0, .int .u32 0, .int .u32 0, .slice none 0 0, .bool false, .int .u16 0, .slice none 0 0, .slice none 0 0] 64))
  have L0 : ∀ x : Later (w.alloc (.cells #[.bool false, .int .u8 0, .int .u16 0, .int .u32 0, .int .u32 0, .slice none 0 0, .bool false, .int .u16 0, .slice none 0 0, .slice none 0 0] 64)), x.w'.cell? ⟨bb, off, none⟩ = some (.int .u8 f) := fun x => D0.out _ ((More.alloc w (.cells #[.bool false, .int .u8 0, .int .u16 0, .int .u32 0, .int .u32 0, .slice none 0 0, .bool false, .int .u16 0, .slice none 0 0, .slice none 0 0] 64)).trans x.h)
  have L1 : ∀ x : Later (w.alloc (.cells #[.bool false, .int .u8 0, .int .u16 0, .int .u32 0, .int .u32 0, .slice none 0 0, .bool false, .int .u16 0, .slice none 0 0, .slice none 0 0] 64)), x.w'.cell? ⟨bb, off + 1, none⟩ = some (.int .u8 g) := fun x => D1.out _ ((More.alloc w (.cells #[.bool false, .int .u8 0, .int .u16 0, .int .u32 0, .int .u32 0, .slice none 0 0, .bool false, .int .u16 0, .slice none 0 0, .slice none 0 0] 64)).trans x.h)
  have BR0 := Lib.hid (blk_new w (.cells #[.bool false, .int .u8 0, .int .u16 0, .int .u32 0, .int .u32 0, .slice none 0 0, .bool false, .int .u16 0, .slice none 0 0, .slice none 0 0] 64))
  go_enter Try.func31, Try.ntmps31
  go_upto_region 7 with fail
  refine wp_region_num (w.alloc (.cells #[.bool false, .int .u8 0, .int .u16 0, .int .u32 0, .int .u32 0, .slice none 0 0, .bool false, .int .u16 0, .slice none 0 0, .slice none 0 0] 64)) 11 [(0, false), (1, false), (2, false), (3, false), (4, false), (5, false), (6, false), (7, false), (8, false), (9, false), (10, true), (11, true)] (by kernel_rfl) (by kernel_rfl) ?_
  iterate 10 (refine num_quiet rfl rfl (later_mk (by repeat (first | exact More.refl _ | assumption | refine More.dr ?_ _ | refine More.al ?_ _ | refine More.st ?_ (by simp) _))) ?_; intro K hK; go_big_quiet_op; go_big_quiet_on)
  (refine num_next rfl rfl ?_; intro K hK; unfold loud; go_simp)
  refine ⟨later_mk (by repeat (first | exact More.refl _ | assumption | refine More.dr ?_ _ | refine More.al ?_ _ | refine More.st ?_ (by simp) _)), hK _ _ ?_⟩
  clear hK K
  (refine num_end rfl rfl (by decide) ?_; intro K hK; unfold loud; go_simp)
  refine hK _ _ ?_
  clear hK K
  refine num_nil ?_
  have BR7 := Lib.hid (blk_alloc (blk_drewN BR0.out 1) (.cells #[.bool (decide (128 ≤ g)), .int .u8 GM, .int .u16 0, .int .u32 0, .int .u32 0, .slice none 0 0, .bool false, .int .u16 0, .slice none 0 0, .slice none 0 0] 64))
  have BD7 : Hid ((((w.alloc (.cells #[.bool false, .int .u8 0, .int .u16 0, .int .u32 0, .int .u32 0, .slice none 0 0, .bool false, .int .u16 0, .slice none 0 0, .slice none 0 0] 64)).drewN 1).alloc (.cells #[.bool (decide (128 ≤ g)), .int .u8 GM, .int .u16 0, .int .u32 0, .int .u32 0, .slice none 0 0, .bool false, .int .u16 0, .slice none 0 0, .slice none 0 0] 64)).heap[w.heap.size + 1]? = some (.cells #[.bool (decide (128 ≤ g)), .int .u8 GM, .int .u16 0, .int .u32 0, .int .u32 0, .slice none 0 0, .bool false, .int .u16 0, .slice none 0 0, .slice none 0 0] 64)) := Lib.hid (blk_new2 (by simp))
  have M7 := Lib.hid (((More.alloc w (.cells #[.bool false, .int .u8 0, .int .u16 0, .int .u32 0, .int .u32 0, .slice none 0 0, .bool false, .int .u16 0, .slice none 0 0, .slice none 0 0] 64)).dr 1).al (.cells #[.bool (decide (128 ≤ g)), .int .u8 GM, .int .u16 0, .int .u32 0, .int .u32 0, .slice none 0 0, .bool false, .int .u16 0, .slice none 0 0, .slice none 0 0] 64))
  generalize ((w.alloc (.cells #[.bool false, .int .u8 0, .int .u16 0, .int .u32 0, .int .u32 0, .slice none 0 0, .bool false, .int .u16 0, .slice none 0 0, .slice none 0 0] 64)).drewN 1).alloc (.cells #[.bool (decide (128 ≤ g)), .int .u8 GM, .int .u16 0, .int .u32 0, .int .u32 0, .slice none 0 0, .bool false, .int .u16 0, .slice none 0 0, .slice none 0 0] 64) = W7 at *
  obtain ⟨R, hR⟩ : ∃ R, W7.heap.size = R := ⟨_, rfl⟩
  have H0 : Hid (HdR w (W7.alloc (.cells #[(.slice (some ⟨bb, off, none⟩) (r.length + 2) cb), .int .i64 2, .int .i64 0] 155)) R w.heap.size (w.heap.size + 1) (.slice (some ⟨bb, off, none⟩) (r.length + 2) cb) b (s2H b) ⟨(decide (128 ≤ g)), GM, 0, 0, 0, [], false, 0, [], []⟩ (.slice none 0 0) (.slice none 0 0) (.slice none 0 0)) := Lib.hid (by
    rw [hR] at hW7
    exact ⟨⟨2, by rw [HS2.out, ← hR]; exact blk_new W7 _, SLW.out.keep (M7.out.al _), hb6, HBY.out, hb2, by rw [HS2.out, HBR.out]; rfl⟩, SLW.out, M7.out.al _, blk_alloc BR7.out _, blk_alloc BD7.out _, World.ownsRow_nil _ _ _ _, World.ownsRow_nil _ _ _ _, World.ownsRow_nil _ _ _ _, Nat.le_refl _, Nat.lt_succ_self _, hW7⟩)
  clear L0 L1 e0 BR0 BR7 BD7 hW7
  go_wp2_with (first | (go_at_call 84; ((with_reducible refine (RNum_any H0.out.rd 2 (by decide)).mono ?_); rintro e w3 ⟨rfl, r_w3, a_w3⟩; rw [E3.out]; have H1 := Lib.hid (H0.out.step (s' := s3H b) r_w3 a_w3); clear r_w3 a_w3; have x2 := blk_cell H1.out.bd 2 (v := .int .u16 0) rfl; have z2 := blk_free H1.out.bd 2; have H2 : Hid (HdR w (w3.setCell ⟨w.heap.size + 1, 2, none⟩ (.int .u16 sq)) R w.heap.size (w.heap.size + 1) (.slice (some ⟨bb, off, none⟩) (r.length + 2) cb) b (s3H b) ⟨(decide (128 ≤ g)), GM, sq, 0, 0, [], false, 0, [], []⟩ (.slice none 0 0) (.slice none 0 0) (.slice none 0 0)) := Lib.hid (H1.out.scal 2 (.int .u16 sq) ⟨(decide (128 ≤ g)), GM, sq, 0, 0, [], false, 0, [], []⟩ rfl rfl rfl rfl))) | (go_at_call 84; ((with_reducible refine (RNum_any H2.out.rd 4 (by decide)).mono ?_); rintro e w4 ⟨rfl, r_w4, a_w4⟩; rw [E4.out]; have H3 := Lib.hid (H2.out.step (s' := s4H b) r_w4 a_w4); clear r_w4 a_w4; clear x2 z2; have x3 := blk_cell H3.out.bd 3 (v := .int .u32 0) rfl; have z3 := blk_free H3.out.bd 3; have H4 : Hid (HdR w (w4.setCell ⟨w.heap.size + 1, 3, none⟩ (.int .u32 st)) R w.heap.size (w.heap.size + 1) (.slice (some ⟨bb, off, none⟩) (r.length + 2) cb) b (s4H b) ⟨(decide (128 ≤ g)), GM, sq, st, 0, [], false, 0, [], []⟩ (.slice none 0 0) (.slice none 0 0) (.slice none 0 0)) := Lib.hid (H3.out.scal 3 (.int .u32 st) ⟨(decide (128 ≤ g)), GM, sq, st, 0, [], false, 0, [], []⟩ rfl rfl rfl rfl))) | (go_at_call 84; ((with_reducible refine (RNum_any H4.out.rd 4 (by decide)).mono ?_); rintro e w5 ⟨rfl, r_w5, a_w5⟩; rw [E5.out]; have H5 := Lib.hid (H4.out.step (s' := s5H b) r_w5 a_w5); clear r_w5 a_w5; clear x3 z3; have x4 := blk_cell H5.out.bd 4 (v := .int .u32 0) rfl; have z4 := blk_free H5.out.bd 4; have H6 : Hid (HdR w (w5.setCell ⟨w.heap.size + 1, 4, none⟩ (.int .u32 sc)) R w.heap.size (w.heap.size + 1) (.slice (some ⟨bb, off, none⟩) (r.length + 2) cb) b (s5H b) ⟨(decide (128 ≤ g)), GM, sq, st, sc, [], false, 0, [], []⟩ (.slice none 0 0) (.slice none 0 0) (.slice none 0 0)) := Lib.hid (H5.out.scal 4 (.int .u32 sc) ⟨(decide (128 ≤ g)), GM, sq, st, sc, [], false, 0, [], []⟩ rfl rfl rfl rfl))))
  generalize w5.setCell ⟨w.heap.size + 1, 4, none⟩ (.int .u32 sc) = W9 at *
  clear H0 H1 H2 H3 H4 H5 x4 z4 E3 E4 E5 HS2 HBY hb6 hb2 HBR hn1
  have H6' : Hid (HdR w W9 R w.heap.size (w.heap.size + 1) (.slice (some ⟨bb, off, none⟩) (r.length + 2) cb) b S6 ⟨(decide (128 ≤ g)), GM, sq, st, sc, [], false, 0, [], []⟩ (.slice none 0 0) (.slice none 0 0) (.slice none 0 0)) := Lib.hid (by have := H6.out; rw [HS6.out] at this; exact this)
  clear H6 HS6
  have hR0 := hR
  go_loopw [6] (fun i wr => ∃ k : Nat, k ≤ NS ∧ i = .int .i64 k ∧ ∃ vs, HdR w wr R w.heap.size (w.heap.size + 1) (.slice (some ⟨bb, off, none⟩) (r.length + 2) cb) b (rdSs k S6).2 ⟨(decide (128 ≤ g)), GM, sq, st, sc, (rdSs k S6).1, false, 0, [], []⟩ vs (.slice none 0 0) (.slice none 0 0)) (fun i _ => NS - (intOf i).toNat)
  case atStart => exact ⟨0, by omega, rfl, _, H6'.out⟩
  case round =>
    obtain ⟨k, hk, rfl, vs, hwx⟩ := hrel
    have HW := Lib.hid hwx
    have e0 := D0.out _ hwx.more
    by_cases hlt : k < NS
    · have hki : (k : Int) < (NS : Int) := by omega
      have hll := rdSs_len k S6
      have HLL := Lib.hid hll
      have hx := u32_num hwx.rd.byt
      obtain ⟨X, hX⟩ : ∃ X, num (tkB (rdSs k S6).2.1 4) = X := ⟨_, rfl⟩
      rw [hX] at hx
      obtain ⟨hx0, hx1⟩ := hx
      have HX := Lib.hid hX
      clear hX
      obtain ⟨os, ns, cs, rfl, hns, _⟩ := slice_of_row hwx.rs
      subst hns
      have hbd : ¬ (w.heap.size + 1 = R ∨ (Value.slice os (rdSs k S6).1.length cs).ownBlock = some (w.heap.size + 1)) := by
        rintro (e | e)
        · have := HW.out.nR; omega
        · have := owns_ge HW.out.rs e; have := HW.out.nR; omega
      have C5 : ∀ x : LaterS (fun b => b = R ∨ (Value.slice os (rdSs k S6).1.length cs).ownBlock = some b) wr, x.w'.cell? ⟨w.heap.size + 1, 5, none⟩ = some (.slice os (rdSs k S6).1.length cs) := fun x => blk_cell (x.h.blk HW.out.bd hbd) 5 rfl
      clear hwx hll
      go_wp2_with fail
      refine wp_region_numS (fun b => b = R ∨ (Value.slice os (rdSs k S6).1.length cs).ownBlock = some b) wr 8 [(0, false), (1, false), (2, false), (3, true), (4, false), (5, true), (6, true), (7, false), (8, true)] (by kernel_rfl) (by kernel_rfl) ?_
      iterate 3 (refine num_quiet rfl rfl (laterS_mk (by repeat (first | exact Away.refl _ _ | assumption | refine Away.drewN ?_ _ | refine Away.set ?_ (by first | rfl | exact Or.inl rfl | exact Or.inr rfl) _))) ?_; intro K hK; go_big_quiet_op; go_big_quiet_on)
      (refine num_next rfl rfl ?_; intro K hK; unfold loud; go_simp)
      refine (RNum_any (HW.out.rd.more (More.drewN _ 1)) 4 (by decide)).mono ?_
      rintro e w8 ⟨rfl, r8, a8⟩
      rw [HX.out]
      have a8' : Away (fun b => b = R ∨ (Value.slice os (rdSs k S6).1.length cs).ownBlock = some b) wr w8 := ((Away.refl _ _).drewN _).trans (a8.mono fun b h => Or.inl h)
      refine ⟨_, rfl, laterS_mk a8', hK _ _ ?_⟩
      clear hK K
      iterate 1 (refine num_quiet rfl rfl (laterS_mk a8') ?_; intro K hK; go_big_quiet_op; go_big_quiet_on)
      (refine num_next rfl rfl ?_; intro K hK; unfold loud; go_simp)
      have a9 := a8'.more (More.alloc w8 (.cells #[.int .u32 X] 22))
      refine ⟨laterS_mk a9, hK _ _ ?_⟩
      clear hK K
      have J8 := (HW.out.on (More.drewN wr 1)).step (s' := tkS (rdSs k S6).2 4) r8 a8
      have J9 := J8.on (More.alloc w8 (.cells #[.int .u32 X] 22))
      (refine num_next rfl rfl ?_; intro K hK)
      refine loud_append_sl (.tmp 67) (.tmp 71) 55 rfl (R + 1) 22 i0 (.int .u32 0) 4 Try.underlying55 hi' hz0 hz1 hz2 rfl (.slice os (rdSs k S6).1.length cs) .u32 (rdSs k S6).1 rfl J9.rs (.slice (some ⟨w8.heap.size, 0, none⟩) 1 1) [X] rfl (SlI.of_owns (World.ownsRow_lit (e := 22) (size := 1) (base := w8.heap.size) w8 #[.int .u32 X] 1 (Nat.le_refl _) (by unfold maxLen; omega) rfl) (by simp)) (by rw [HLL.out]; simp; omega) (by decide) (by have := J9.rd.lt; omega) ?_
      intro v10 w10 ho10 hg10 hb10
      have a10 : Away (fun b => b = R ∨ (Value.slice os (rdSs k S6).1.length cs).ownBlock = some b) wr w10 := a9.trans ⟨hg10.os, hg10.tape, hg10.output, hg10.size, fun k hk hs => hg10.block k hk (fun e => hs (Or.inr e.symm))⟩
      have ho10' : w10.ownsRow (R + 1) 22 1 v10 (rdSs (k + 1) S6).1.length ((rdSs (k + 1) S6).1.map (Value.int .u32)) := by
        have e : (rdSs (k + 1) S6).1 = (rdSs k S6).1 ++ [X] := by rw [← HX.out]; rfl
        rw [e]
        exact ho10
      have J10 := Lib.hid (J9.grow rfl rfl ho10' hg10)
      have hB : w10.heap[w.heap.size + 1]? = _ := (hg10.block (w.heap.size + 1) (blk_lt J9.bd) (fun e => by have := owns_ge J9.rs e.symm; have := HW.out.nR; omega)).trans J9.bd
      have q5 : w10.cell? ⟨w.heap.size + 1, 5, none⟩ = some (.slice os (rdSs k S6).1.length cs) := blk_cell hB 5 rfl
      have z5 : w10.frozen? ⟨w.heap.size + 1, 5, none⟩ = false := blk_free hB 5
      obtain ⟨o10, n10, c10, rfl, hz8, hz9⟩ := slice_of_row ho10
      clear hz8 hz9 ho10 ho10' hg10 hb10 hB
      refine ⟨laterS_mk a10, hK _ _ ?_⟩
      clear hK K
      go_simp
      iterate 1 (refine num_quiet rfl rfl (laterS_mk a10) ?_; intro K hK; go_big_quiet_op; go_big_quiet_on)
      (refine num_end rfl rfl (by decide) ?_; intro K hK; unfold loud; go_simp)
      refine hK _ _ ?_
      clear hK K
      refine num_nil ?_
      go_wp2
      go_roundw
      case rel => exact ⟨k + 1, by omega, by go_num, _, J10.out⟩
      case measure => simp [intOf]; omega
    · obtain rfl : k = NS := by omega
      have hki : ¬ (k : Int) < (k : Int) := by omega
      clear hwx H6' hk hlt
      obtain ⟨hx1, hx2, hx3⟩ := HX0.out
      have hw := HW.out
      rw [← hx1] at hw
      obtain ⟨S7, hS7⟩ : ∃ S7, (rdSs k S6).2 = S7 := ⟨_, rfl⟩
      rw [hS7] at hw hx2 hx3
      have b7 := hw.rd.byt
      have u7 := u16_num (s := S7) b7
      have u8 := u16_num (s := tkS S7 2) (b7.drop _)
      unfold extS at hx2
      obtain ⟨N7, hN7⟩ : ∃ x, num (tkB S7.1 2) = x := ⟨_, rfl⟩
      obtain ⟨N8, hN8⟩ : ∃ x, num (tkB (tkS S7 2).1 2) = x := ⟨_, rfl⟩
      rw [hN7] at hx2 u7
      rw [hN8] at hx2 u8
      obtain ⟨u70, u71⟩ := u7
      obtain ⟨u80, u81⟩ := u8
      have EN7 := Lib.hid hN7
      have EN8 := Lib.hid hN8
      have HB := Lib.hid hw
      have HX2 := Lib.hid hx2
      have HX3 := Lib.hid hx3
      clear hw hx1 hx2 hx3 hS7 HW HX0 b7 hN7 hN8
      have x6 := blk_cell HB.out.bd 6 (v := .bool false) rfl
      have z6 := blk_free HB.out.bd 6
      have H1 : Hid (HdR w (wr.setCell ⟨w.heap.size + 1, 6, none⟩ (.bool FH)) R w.heap.size (w.heap.size + 1) (.slice (some ⟨bb, off, none⟩) (r.length + 2) cb) b S7 ⟨(decide (128 ≤ g)), GM, sq, st, sc, L7, FH, 0, [], []⟩ vs (.slice none 0 0) (.slice none 0 0)) := Lib.hid (HB.out.scal 6 (.bool FH) ⟨(decide (128 ≤ g)), GM, sq, st, sc, L7, FH, 0, [], []⟩ rfl rfl rfl rfl)
      go_upto_if 82 with fail
      clear hNS
      go_cut [7] from 83 (fun s7 wx => ∃ ve, HdR w wx R w.heap.size (w.heap.size + 1) (.slice (some ⟨bb, off, none⟩) (r.length + 2) cb) b S8 ⟨(decide (128 ≤ g)), GM, sq, st, sc, L7, FH, P7, X7, []⟩ vs ve (.slice none 0 0))
      case first =>
        cases FH with
        | false =>
          go_wp2
          go_meet
          obtain ⟨e1, e2, e3⟩ := HX3.out (by simp)
          rw [e1, e2, e3]
          exact ⟨_, H1.out⟩
        | true =>
          go_wp2_with (first | (go_at_call 84; ((with_reducible refine (RNum_any H1.out.rd 2 (by decide)).mono ?_); rintro e wa ⟨rfl, ra, aa⟩; rw [EN7.out]; have H2 := Lib.hid (H1.out.step (s' := tkS S7 2) ra aa); clear ra aa x6 z6; have x7 := blk_cell H2.out.bd 7 (v := .int .u16 0) rfl; have z7 := blk_free H2.out.bd 7; have H3 : Hid (HdR w (wa.setCell ⟨w.heap.size + 1, 7, none⟩ (.int .u16 N7)) R w.heap.size (w.heap.size + 1) (.slice (some ⟨bb, off, none⟩) (r.length + 2) cb) b (tkS S7 2) ⟨(decide (128 ≤ g)), GM, sq, st, sc, L7, true, N7, [], []⟩ vs (.slice none 0 0) (.slice none 0 0)) := Lib.hid (H2.out.scal 7 (.int .u16 N7) ⟨(decide (128 ≤ g)), GM, sq, st, sc, L7, true, N7, [], []⟩ rfl rfl rfl rfl))) | (go_at_call 84; ((with_reducible refine (RNum_any H3.out.rd 2 (by decide)).mono ?_); rintro e wb ⟨rfl, rb, ab⟩; rw [EN8.out]; have H4 := Lib.hid (H3.out.step (s' := tkS (tkS S7 2) 2) rb ab); clear rb ab x7 z7)) | (go_at_call 94; ((with_reducible refine (RRaw_any H4.out.rd (4 * N8) (by omega)).mono ?_); rintro e we ⟨v8, rfl, o8, rc, ac⟩; have H5 := Lib.hid (H4.out.step (s' := tkS (tkS (tkS S7 2) 2) (4 * N8)) rc ac); have O8 := Lib.hid (owns_down o8 (show R + 1 ≤ wb.heap.size from by have := H4.out.rd.lt; omega)); clear rc ac o8; have x8 := blk_cell H5.out.bd 8 (v := .slice none 0 0) rfl; have z8 := blk_free H5.out.bd 8; obtain ⟨o8, n8, c8, rfl, -, -⟩ := slice_of_row O8.out)))
          go_meet
          obtain ⟨e1, e2, e3⟩ := HX2.out (by simp)
          rw [e1, e2, e3]
          exact ⟨_, H5.out.fill 8 (.slice o8 n8 c8) (q' := ⟨(decide (128 ≤ g)), GM, sq, st, sc, L7, true, N7, (tkB (tkS (tkS S7 2) 2).1 (4 * N8)), []⟩) rfl H5.out.rs O8.out H5.out.rp⟩
      case rest =>
        obtain ⟨ve, hc⟩ := hcut
        have HC := Lib.hid hc
        have hsm := hc.rd.small
        have hby := Lib.hid hc.rd.byt
        have hnR := hc.nR
        obtain ⟨a9, hR9, -⟩ := hc.rd.blk
        have HR9 := Lib.hid hR9
        have c2 := blk_cell hR9 2 (v := .int .i64 S8.2) rfl
        have e0 := D0.out _ hc.more
        obtain ⟨os, ns, cs, rfl, -, -⟩ := slice_of_row hc.rs
        obtain ⟨oe, ne, ce, rfl, -, -⟩ := slice_of_row hc.re
        clear hc H1 HB HX2 HX3 EN7 EN8 x6 z6 hR9
        by_cases h8 : S8.2 = 0
        · have h8b : (S8.2 != 0) = false := by simp [h8]
          go_upto_if 115 with (first | (go_at_call 95; ((with_reducible refine (RLeft_any HC.out.rd).mono ?_); rintro e wd ⟨rfl, md⟩; have HD := Lib.hid (HC.out.on md); clear md)) | (go_at_call 94; ((with_reducible refine (RRaw_any HD.out.rd (S8.1.length : Int) (by omega)).mono ?_); rintro e we ⟨v9, rfl, o9, rd, ad⟩; rw [(tk_all S8.1 S8.2).1] at o9; have H5 := Lib.hid (HD.out.step rd ad); have O9 := Lib.hid (owns_down o9 (show R + 1 ≤ wd.heap.size from by have := HD.out.rd.lt; omega)); clear rd ad o9; have x9 := blk_cell H5.out.bd 9 (v := .slice none 0 0) rfl; have z9 := blk_free H5.out.bd 9; obtain ⟨o9, n9, c9, rfl, hn9, -⟩ := slice_of_row O9.out; subst hn9; have H6 := Lib.hid (H5.out.fill 9 (.slice o9 S8.1.length c9) (q' := ⟨(decide (128 ≤ g)), GM, sq, st, sc, L7, FH, P7, X7, S8.1⟩) rfl H5.out.rs H5.out.re O9.out); have e1 := D0.out _ H6.out.more)))
          generalize we.setCell ⟨w.heap.size + 1, 9, none⟩ (.slice o9 S8.1.length c9) = W10 at *
          have hH8 := Lib.hid h8
          have H6' := Lib.hid H6.out
          clear x9 z9 O9 H5 HD HC e0 c2 h8
          have y0 := blk_cell H6.out.bd 0 (v := .bool (decide (128 ≤ g))) rfl
          have y1 := blk_cell H6.out.bd 1 (v := .int .u8 GM) rfl
          have y2 := blk_cell H6.out.bd 2 (v := .int .u16 sq) rfl
          have y3 := blk_cell H6.out.bd 3 (v := .int .u32 st) rfl
          have y4 := blk_cell H6.out.bd 4 (v := .int .u32 sc) rfl
          have y5 := blk_cell H6.out.bd 5 (v := .slice os ns cs) rfl
          have y6 := blk_cell H6.out.bd 6 (v := .bool FH) rfl
          have y7 := blk_cell H6.out.bd 7 (v := .int .u16 P7) rfl
          have y8 := blk_cell H6.out.bd 8 (v := .slice oe ne ce) rfl
          have y9 := blk_cell H6.out.bd 9 (v := .slice o9 S8.1.length c9) rfl
          have g0 := blk_cell H6.out.br 0 (v := .bool false) rfl
          have k0 := blk_free H6.out.br 0
          have g1 := blk_cell H6.out.br 1 (v := .int .u8 0) rfl
          have k1 := blk_free H6.out.br 1
          have g2 := blk_cell H6.out.br 2 (v := .int .u16 0) rfl
          have k2 := blk_free H6.out.br 2
          have g3 := blk_cell H6.out.br 3 (v := .int .u32 0) rfl
          have k3 := blk_free H6.out.br 3
          have g4 := blk_cell H6.out.br 4 (v := .int .u32 0) rfl
          have k4 := blk_free H6.out.br 4
          have g5 := blk_cell H6.out.br 5 (v := .slice none 0 0) rfl
          have k5 := blk_free H6.out.br 5
          have g6 := blk_cell H6.out.br 6 (v := .bool false) rfl
          have k6 := blk_free H6.out.br 6
          have g7 := blk_cell H6.out.br 7 (v := .int .u16 0) rfl
          have k7 := blk_free H6.out.br 7
          have g8 := blk_cell H6.out.br 8 (v := .slice none 0 0) rfl
          have k8 := blk_free H6.out.br 8
          have g9 := blk_cell H6.out.br 9 (v := .slice none 0 0) rfl
          have k9 := blk_free H6.out.br 9
          cases FP with
          | false =>
            have hq := Lib.hid (Q2.out hH8.out (by simp))
            clear Q1 Q2 Q3 Q4
            go_wp2
            have fin := st10_blk H6.out.br (.bool (decide (128 ≤ g))) (.int .u8 GM) (.int .u16 sq) (.int .u32 st) (.int .u32 sc) (.slice os ns cs) (.bool FH) (.int .u16 P7) (.slice oe ne ce) (.slice o9 S8.1.length c9)
            have mf := (H6.out.more).st10 w.heap.size (Nat.le_refl _) (.bool (decide (128 ≤ g))) (.int .u8 GM) (.int .u16 sq) (.int .u32 st) (.int .u32 sc) (.slice os ns cs) (.bool FH) (.int .u16 P7) (.slice oe ne ce) (.slice o9 S8.1.length c9)
            have aw := away_st10 W10 w.heap.size (.bool (decide (128 ≤ g))) (.int .u8 GM) (.int .u16 sq) (.int .u32 st) (.int .u32 sc) (.slice os ns cs) (.bool FH) (.int .u16 P7) (.slice oe ne ce) (.slice o9 S8.1.length c9)
            obtain ⟨WF, hWF⟩ : ∃ WF, ((((((((((W10.setCell ⟨w.heap.size, 0, none⟩ (.bool (decide (128 ≤ g)))).setCell ⟨w.heap.size, 1, none⟩ (.int .u8 GM)).setCell ⟨w.heap.size, 2, none⟩ (.int .u16 sq)).setCell ⟨w.heap.size, 3, none⟩ (.int .u32 st)).setCell ⟨w.heap.size, 4, none⟩ (.int .u32 sc)).setCell ⟨w.heap.size, 5, none⟩ (.slice os ns cs)).setCell ⟨w.heap.size, 6, none⟩ (.bool FH)).setCell ⟨w.heap.size, 7, none⟩ (.int .u16 P7)).setCell ⟨w.heap.size, 8, none⟩ (.slice oe ne ce)).setCell ⟨w.heap.size, 9, none⟩ (.slice o9 S8.1.length c9)) = WF := ⟨_, rfl⟩
            rw [hWF] at fin mf aw ⊢
            clear hWF
            clear y0 g0 k0 y1 g1 k1 y2 g2 k2 y3 g3 k3 y4 g4 k4 y5 g5 k5 y6 g6 k6 y7 g7 k7 y8 g8 k8 y9 g9 k9
            have r0 := blk_cell fin 0 (v := (.bool (decide (128 ≤ g)))) rfl
            have r1 := blk_cell fin 1 (v := (.int .u8 GM)) rfl
            have r2 := blk_cell fin 2 (v := (.int .u16 sq)) rfl
            have r3 := blk_cell fin 3 (v := (.int .u32 st)) rfl
            have r4 := blk_cell fin 4 (v := (.int .u32 sc)) rfl
            have r5 := blk_cell fin 5 (v := (.slice os ns cs)) rfl
            have r6 := blk_cell fin 6 (v := (.bool FH)) rfl
            have r7 := blk_cell fin 7 (v := (.int .u16 P7)) rfl
            have r8 := blk_cell fin 8 (v := (.slice oe ne ce)) rfl
            have r9 := blk_cell fin 9 (v := (.slice o9 S8.1.length c9)) rfl
            (refine bodyPost_ret (v := .tuple #[.agg #[.bool (decide (128 ≤ g)), .int .u8 GM, .int .u16 sq, .int .u32 st, .int .u32 sc, .slice os ns cs, .bool FH, .int .u16 P7, .slice oe ne ce, .slice o9 S8.1.length c9], .int .i64 0]) ?rr1 rfl ?_; (case rr1 => (simp [results, Try.results31, go_sem, r0, r1, r2, r3, r4, r5, r6, r7, r8, r9])))
            rw [hq.out]
            refine ⟨.slice os ns cs, .slice oe ne ce, .slice o9 S8.1.length c9, rfl, ?_, mf⟩
            have n1 := H6.out.n0
            have n2 := H6.out.nB
            have n3 := H6.out.nR
            exact ⟨SlI.of_owns (owns_away H6.out.rs aw (fun k hk => by omega)) (owns_small H6.out.rs), SlI.of_owns (owns_away H6.out.re aw (fun k hk => by omega)) (owns_small H6.out.re), SlI.of_owns (owns_away H6.out.rp aw (fun k hk => by omega)) (owns_small H6.out.rp)⟩
          | true =>
            by_cases hn : S8.1.length = 0
            · have hu : (unpadH S8.1).2 = false := by unfold unpadH; rw [if_pos (List.length_eq_zero_iff.1 hn)]
              have hq := Lib.hid (Q4.out hH8.out (by simp) hu)
              have hni : (S8.1.length : Int) = 0 := by omega
              clear Q1 Q2 Q3 Q4 hu hn
              go_wp2
              have fin := st10_blk H6.out.br (.bool false) (.int .u8 0) (.int .u16 0) (.int .u32 0) (.int .u32 0) (.slice none 0 0) (.bool false) (.int .u16 0) (.slice none 0 0) (.slice none 0 0)
              have mf := (H6.out.more).st10 w.heap.size (Nat.le_refl _) (.bool false) (.int .u8 0) (.int .u16 0) (.int .u32 0) (.int .u32 0) (.slice none 0 0) (.bool false) (.int .u16 0) (.slice none 0 0) (.slice none 0 0)
              have aw := away_st10 W10 w.heap.size (.bool false) (.int .u8 0) (.int .u16 0) (.int .u32 0) (.int .u32 0) (.slice none 0 0) (.bool false) (.int .u16 0) (.slice none 0 0) (.slice none 0 0)
              obtain ⟨WF, hWF⟩ : ∃ WF, ((((((((((W10.setCell ⟨w.heap.size, 0, none⟩ (.bool false)).setCell ⟨w.heap.size, 1, none⟩ (.int .u8 0)).setCell ⟨w.heap.size, 2, none⟩ (.int .u16 0)).setCell ⟨w.heap.size, 3, none⟩ (.int .u32 0)).setCell ⟨w.heap.size, 4, none⟩ (.int .u32 0)).setCell ⟨w.heap.size, 5, none⟩ (.slice none 0 0)).setCell ⟨w.heap.size, 6, none⟩ (.bool false)).setCell ⟨w.heap.size, 7, none⟩ (.int .u16 0)).setCell ⟨w.heap.size, 8, none⟩ (.slice none 0 0)).setCell ⟨w.heap.size, 9, none⟩ (.slice none 0 0)) = WF := ⟨_, rfl⟩
              rw [hWF] at fin mf aw ⊢
              clear hWF
              clear y0 g0 k0 y1 g1 k1 y2 g2 k2 y3 g3 k3 y4 g4 k4 y5 g5 k5 y6 g6 k6 y7 g7 k7 y8 g8 k8 y9 g9 k9
              have r0 := blk_cell fin 0 (v := (.bool false)) rfl
              have r1 := blk_cell fin 1 (v := (.int .u8 0)) rfl
              have r2 := blk_cell fin 2 (v := (.int .u16 0)) rfl
              have r3 := blk_cell fin 3 (v := (.int .u32 0)) rfl
              have r4 := blk_cell fin 4 (v := (.int .u32 0)) rfl
              have r5 := blk_cell fin 5 (v := (.slice none 0 0)) rfl
              have r6 := blk_cell fin 6 (v := (.bool false)) rfl
              have r7 := blk_cell fin 7 (v := (.int .u16 0)) rfl
              have r8 := blk_cell fin 8 (v := (.slice none 0 0)) rfl
              have r9 := blk_cell fin 9 (v := (.slice none 0 0)) rfl
              (refine bodyPost_ret (v := .tuple #[.agg #[.bool false, .int .u8 0, .int .u16 0, .int .u32 0, .int .u32 0, .slice none 0 0, .bool false, .int .u16 0, .slice none 0 0, .slice none 0 0], .int .i64 2]) ?rr2 rfl ?_; (case rr2 => (simp [results, Try.results31, go_sem, r0, r1, r2, r3, r4, r5, r6, r7, r8, r9])))
              rw [hq.out]
              exact ⟨.slice none 0 0, .slice none 0 0, .slice none 0 0, rfl, ⟨SlI.nil _ _, SlI.nil _ _, SlI.nil _ _⟩, mf⟩
            · obtain ⟨_, _, ev, -, el, hcap, -⟩ := SlI.of_owns H6.out.rp (owns_small H6.out.rp)
              cases ev
              obtain ⟨b9, off9, rfl, hw9, d9⟩ := el (S8.1.length - 1) (by show _ < S8.1.length; omega)
              have hx := hby.out (S8.1.length - 1)
              replace d9 : W10.cell? ⟨b9, off9 + (S8.1.length - 1), none⟩ = some (.int .u8 (S8.1.getD (S8.1.length - 1) 0)) := d9
              have hne : ¬ S8.1 = [] := fun e => hn (by rw [e]; rfl)
              have hun : unpadH S8.1 = if S8.1.getD (S8.1.length - 1) 0 = 0 ∨ (S8.1.length : Int) < S8.1.getD (S8.1.length - 1) 0 then ([], false) else (S8.1.take (S8.1.length - (S8.1.getD (S8.1.length - 1) 0).toNat), true) := by unfold unpadH; rw [if_neg hne]
              have h0i : ((S8.1.length : Int) == 0) = false := by rw [beq_eq_false_iff_ne]; omega
              have hi : ((S8.1.length : Int) - 1).toNat = S8.1.length - 1 := by omega
              have hlt1 : (S8.1.length : Int) - 1 < (S8.1.length : Int) := by omega
              have hge : 0 ≤ (S8.1.length : Int) - 1 := by omega
              have hge2 : 1 ≤ (S8.1.length : Int) := by omega
              obtain ⟨x, hxx⟩ : ∃ x, S8.1.getD (S8.1.length - 1) 0 = x := ⟨_, rfl⟩
              rw [hxx] at hx d9 hun
              clear hxx el
              obtain ⟨x0, x1⟩ := hx
              replace hcap : S8.1.length ≤ c9 := hcap
              by_cases hx0 : x = 0
              · have hu : (unpadH S8.1).2 = false := by rw [hun, if_pos (Or.inl hx0)]
                have hq := Lib.hid (Q4.out hH8.out (by simp) hu)
                clear Q1 Q2 Q3 Q4 hu hn hun hne
                subst hx0
                go_wp2
                have fin := st10_blk H6.out.br (.bool false) (.int .u8 0) (.int .u16 0) (.int .u32 0) (.int .u32 0) (.slice none 0 0) (.bool false) (.int .u16 0) (.slice none 0 0) (.slice none 0 0)
                have mf := (H6.out.more).st10 w.heap.size (Nat.le_refl _) (.bool false) (.int .u8 0) (.int .u16 0) (.int .u32 0) (.int .u32 0) (.slice none 0 0) (.bool false) (.int .u16 0) (.slice none 0 0) (.slice none 0 0)
                have aw := away_st10 W10 w.heap.size (.bool false) (.int .u8 0) (.int .u16 0) (.int .u32 0) (.int .u32 0) (.slice none 0 0) (.bool false) (.int .u16 0) (.slice none 0 0) (.slice none 0 0)
                obtain ⟨WF, hWF⟩ : ∃ WF, ((((((((((W10.setCell ⟨w.heap.size, 0, none⟩ (.bool false)).setCell ⟨w.heap.size, 1, none⟩ (.int .u8 0)).setCell ⟨w.heap.size, 2, none⟩ (.int .u16 0)).setCell ⟨w.heap.size, 3, none⟩ (.int .u32 0)).setCell ⟨w.heap.size, 4, none⟩ (.int .u32 0)).setCell ⟨w.heap.size, 5, none⟩ (.slice none 0 0)).setCell ⟨w.heap.size, 6, none⟩ (.bool false)).setCell ⟨w.heap.size, 7, none⟩ (.int .u16 0)).setCell ⟨w.heap.size, 8, none⟩ (.slice none 0 0)).setCell ⟨w.heap.size, 9, none⟩ (.slice none 0 0)) = WF := ⟨_, rfl⟩
                rw [hWF] at fin mf aw ⊢
                clear hWF
                clear y0 g0 k0 y1 g1 k1 y2 g2 k2 y3 g3 k3 y4 g4 k4 y5 g5 k5 y6 g6 k6 y7 g7 k7 y8 g8 k8 y9 g9 k9
                have r0 := blk_cell fin 0 (v := (.bool false)) rfl
                have r1 := blk_cell fin 1 (v := (.int .u8 0)) rfl
                have r2 := blk_cell fin 2 (v := (.int .u16 0)) rfl
                have r3 := blk_cell fin 3 (v := (.int .u32 0)) rfl
                have r4 := blk_cell fin 4 (v := (.int .u32 0)) rfl
                have r5 := blk_cell fin 5 (v := (.slice none 0 0)) rfl
                have r6 := blk_cell fin 6 (v := (.bool false)) rfl
                have r7 := blk_cell fin 7 (v := (.int .u16 0)) rfl
                have r8 := blk_cell fin 8 (v := (.slice none 0 0)) rfl
                have r9 := blk_cell fin 9 (v := (.slice none 0 0)) rfl
                (refine bodyPost_ret (v := .tuple #[.agg #[.bool false, .int .u8 0, .int .u16 0, .int .u32 0, .int .u32 0, .slice none 0 0, .bool false, .int .u16 0, .slice none 0 0, .slice none 0 0], .int .i64 2]) ?rr3 rfl ?_; (case rr3 => (simp [results, Try.results31, go_sem, r0, r1, r2, r3, r4, r5, r6, r7, r8, r9])))
                rw [hq.out]
                exact ⟨.slice none 0 0, .slice none 0 0, .slice none 0 0, rfl, ⟨SlI.nil _ _, SlI.nil _ _, SlI.nil _ _⟩, mf⟩
              · have hx0' : (x == 0) = false := by simpa using hx0
                by_cases hxl : (S8.1.length : Int) < x
                · have hu : (unpadH S8.1).2 = false := by rw [hun, if_pos (Or.inr hxl)]
                  have hq := Lib.hid (Q4.out hH8.out (by simp) hu)
                  clear Q1 Q2 Q3 Q4 hu hn hun hne hx0
                  go_wp2
                  have fin := st10_blk H6.out.br (.bool false) (.int .u8 0) (.int .u16 0) (.int .u32 0) (.int .u32 0) (.slice none 0 0) (.bool false) (.int .u16 0) (.slice none 0 0) (.slice none 0 0)
                  have mf := (H6.out.more).st10 w.heap.size (Nat.le_refl _) (.bool false) (.int .u8 0) (.int .u16 0) (.int .u32 0) (.int .u32 0) (.slice none 0 0) (.bool false) (.int .u16 0) (.slice none 0 0) (.slice none 0 0)
                  have aw := away_st10 W10 w.heap.size (.bool false) (.int .u8 0) (.int .u16 0) (.int .u32 0) (.int .u32 0) (.slice none 0 0) (.bool false) (.int .u16 0) (.slice none 0 0) (.slice none 0 0)
                  obtain ⟨WF, hWF⟩ : ∃ WF, ((((((((((W10.setCell ⟨w.heap.size, 0, none⟩ (.bool false)).setCell ⟨w.heap.size, 1, none⟩ (.int .u8 0)).setCell ⟨w.heap.size, 2, none⟩ (.int .u16 0)).setCell ⟨w.heap.size, 3, none⟩ (.int .u32 0)).setCell ⟨w.heap.size, 4, none⟩ (.int .u32 0)).setCell ⟨w.heap.size, 5, none⟩ (.slice none 0 0)).setCell ⟨w.heap.size, 6, none⟩ (.bool false)).setCell ⟨w.heap.size, 7, none⟩ (.int .u16 0)).setCell ⟨w.heap.size, 8, none⟩ (.slice none 0 0)).setCell ⟨w.heap.size, 9, none⟩ (.slice none 0 0)) = WF := ⟨_, rfl⟩
                  rw [hWF] at fin mf aw ⊢
                  clear hWF
                  clear y0 g0 k0 y1 g1 k1 y2 g2 k2 y3 g3 k3 y4 g4 k4 y5 g5 k5 y6 g6 k6 y7 g7 k7 y8 g8 k8 y9 g9 k9
                  have r0 := blk_cell fin 0 (v := (.bool false)) rfl
                  have r1 := blk_cell fin 1 (v := (.int .u8 0)) rfl
                  have r2 := blk_cell fin 2 (v := (.int .u16 0)) rfl
                  have r3 := blk_cell fin 3 (v := (.int .u32 0)) rfl
                  have r4 := blk_cell fin 4 (v := (.int .u32 0)) rfl
                  have r5 := blk_cell fin 5 (v := (.slice none 0 0)) rfl
                  have r6 := blk_cell fin 6 (v := (.bool false)) rfl
                  have r7 := blk_cell fin 7 (v := (.int .u16 0)) rfl
                  have r8 := blk_cell fin 8 (v := (.slice none 0 0)) rfl
                  have r9 := blk_cell fin 9 (v := (.slice none 0 0)) rfl
                  (refine bodyPost_ret (v := .tuple #[.agg #[.bool false, .int .u8 0, .int .u16 0, .int .u32 0, .int .u32 0, .slice none 0 0, .bool false, .int .u16 0, .slice none 0 0, .slice none 0 0], .int .i64 2]) ?rr4 rfl ?_; (case rr4 => (simp [results, Try.results31, go_sem, r0, r1, r2, r3, r4, r5, r6, r7, r8, r9])))
                  rw [hq.out]
                  exact ⟨.slice none 0 0, .slice none 0 0, .slice none 0 0, rfl, ⟨SlI.nil _ _, SlI.nil _ _, SlI.nil _ _⟩, mf⟩
                · have hu : unpadH S8.1 = (S8.1.take (S8.1.length - x.toNat), true) := by rw [hun, if_neg (by omega)]
                  have hq := Lib.hid (Q3.out hH8.out (by simp) (by rw [hu]))
                  have hq2 := hq.out
                  rw [hu] at hq2
                  have HQ := Lib.hid hq2
                  obtain ⟨M, hM⟩ : ∃ M, S8.1.length - x.toNat = M := ⟨_, rfl⟩
                  rw [hM] at hq2
                  have HQ := Lib.hid hq2
                  have s0 : 0 ≤ (S8.1.length : Int) - x := by omega
                  have s1 : (S8.1.length : Int) - x ≤ (c9 : Int) := by omega
                  have s2 : ((S8.1.length : Int) - x).toNat = M := by omega
                  have x9 := blk_cell H6.out.bd 9 (v := .slice (some ⟨b9, off9, none⟩) S8.1.length c9) rfl
                  have z9 := blk_free H6.out.bd 9
                  have hlM : (S8.1.take M).length = M := by rw [List.length_take]; omega
                  have OM : Hid (W10.ownsRow (R + 1) 5 1 (.slice (some ⟨b9, off9, none⟩) M c9) (S8.1.take M).length ((S8.1.take M).map (Value.int .u8))) := Lib.hid (owns_take H6.out.rp (by show M ≤ S8.1.length; omega) (by show 0 < S8.1.length; omega))
                  have H7 := Lib.hid (H6.out.fill 9 (.slice (some ⟨b9, off9, none⟩) M c9) (q' := ⟨(decide (128 ≤ g)), GM, sq, st, sc, L7, FH, P7, X7, (S8.1.take M)⟩) rfl H6.out.rs H6.out.re OM.out)
                  clear Q1 Q2 Q3 Q4 hu hn hun hne hx0 hq hq2 hM hlM
                  have y0 := blk_cell H7.out.bd 0 (v := .bool (decide (128 ≤ g))) rfl
                  have y1 := blk_cell H7.out.bd 1 (v := .int .u8 GM) rfl
                  have y2 := blk_cell H7.out.bd 2 (v := .int .u16 sq) rfl
                  have y3 := blk_cell H7.out.bd 3 (v := .int .u32 st) rfl
                  have y4 := blk_cell H7.out.bd 4 (v := .int .u32 sc) rfl
                  have y5 := blk_cell H7.out.bd 5 (v := .slice os ns cs) rfl
                  have y6 := blk_cell H7.out.bd 6 (v := .bool FH) rfl
                  have y7 := blk_cell H7.out.bd 7 (v := .int .u16 P7) rfl
                  have y8 := blk_cell H7.out.bd 8 (v := .slice oe ne ce) rfl
                  have y9 := blk_cell H7.out.bd 9 (v := .slice (some ⟨b9, off9, none⟩) M c9) rfl
                  have g0 := blk_cell H7.out.br 0 (v := .bool false) rfl
                  have k0 := blk_free H7.out.br 0
                  have g1 := blk_cell H7.out.br 1 (v := .int .u8 0) rfl
                  have k1 := blk_free H7.out.br 1
                  have g2 := blk_cell H7.out.br 2 (v := .int .u16 0) rfl
                  have k2 := blk_free H7.out.br 2
                  have g3 := blk_cell H7.out.br 3 (v := .int .u32 0) rfl
                  have k3 := blk_free H7.out.br 3
                  have g4 := blk_cell H7.out.br 4 (v := .int .u32 0) rfl
                  have k4 := blk_free H7.out.br 4
                  have g5 := blk_cell H7.out.br 5 (v := .slice none 0 0) rfl
                  have k5 := blk_free H7.out.br 5
                  have g6 := blk_cell H7.out.br 6 (v := .bool false) rfl
                  have k6 := blk_free H7.out.br 6
                  have g7 := blk_cell H7.out.br 7 (v := .int .u16 0) rfl
                  have k7 := blk_free H7.out.br 7
                  have g8 := blk_cell H7.out.br 8 (v := .slice none 0 0) rfl
                  have k8 := blk_free H7.out.br 8
                  have g9 := blk_cell H7.out.br 9 (v := .slice none 0 0) rfl
                  have k9 := blk_free H7.out.br 9
                  go_wp2
                  have fin := st10_blk H7.out.br (.bool (decide (128 ≤ g))) (.int .u8 GM) (.int .u16 sq) (.int .u32 st) (.int .u32 sc) (.slice os ns cs) (.bool FH) (.int .u16 P7) (.slice oe ne ce) (.slice (some ⟨b9, off9, none⟩) M c9)
                  have mf := (H7.out.more).st10 w.heap.size (Nat.le_refl _) (.bool (decide (128 ≤ g))) (.int .u8 GM) (.int .u16 sq) (.int .u32 st) (.int .u32 sc) (.slice os ns cs) (.bool FH) (.int .u16 P7) (.slice oe ne ce) (.slice (some ⟨b9, off9, none⟩) M c9)
                  have aw := away_st10 (W10.setCell ⟨w.heap.size + 1, 9, none⟩ (.slice (some ⟨b9, off9, none⟩) M c9)) w.heap.size (.bool (decide (128 ≤ g))) (.int .u8 GM) (.int .u16 sq) (.int .u32 st) (.int .u32 sc) (.slice os ns cs) (.bool FH) (.int .u16 P7) (.slice oe ne ce) (.slice (some ⟨b9, off9, none⟩) M c9)
                  obtain ⟨WF, hWF⟩ : ∃ WF, (((((((((((W10.setCell ⟨w.heap.size + 1, 9, none⟩ (.slice (some ⟨b9, off9, none⟩) M c9)).setCell ⟨w.heap.size, 0, none⟩ (.bool (decide (128 ≤ g)))).setCell ⟨w.heap.size, 1, none⟩ (.int .u8 GM)).setCell ⟨w.heap.size, 2, none⟩ (.int .u16 sq)).setCell ⟨w.heap.size, 3, none⟩ (.int .u32 st)).setCell ⟨w.heap.size, 4, none⟩ (.int .u32 sc)).setCell ⟨w.heap.size, 5, none⟩ (.slice os ns cs)).setCell ⟨w.heap.size, 6, none⟩ (.bool FH)).setCell ⟨w.heap.size, 7, none⟩ (.int .u16 P7)).setCell ⟨w.heap.size, 8, none⟩ (.slice oe ne ce)).setCell ⟨w.heap.size, 9, none⟩ (.slice (some ⟨b9, off9, none⟩) M c9)) = WF := ⟨_, rfl⟩
                  rw [hWF] at fin mf aw ⊢
                  clear hWF
                  clear y0 g0 k0 y1 g1 k1 y2 g2 k2 y3 g3 k3 y4 g4 k4 y5 g5 k5 y6 g6 k6 y7 g7 k7 y8 g8 k8 y9 g9 k9
                  have r0 := blk_cell fin 0 (v := (.bool (decide (128 ≤ g)))) rfl
                  have r1 := blk_cell fin 1 (v := (.int .u8 GM)) rfl
                  have r2 := blk_cell fin 2 (v := (.int .u16 sq)) rfl
                  have r3 := blk_cell fin 3 (v := (.int .u32 st)) rfl
                  have r4 := blk_cell fin 4 (v := (.int .u32 sc)) rfl
                  have r5 := blk_cell fin 5 (v := (.slice os ns cs)) rfl
                  have r6 := blk_cell fin 6 (v := (.bool FH)) rfl
                  have r7 := blk_cell fin 7 (v := (.int .u16 P7)) rfl
                  have r8 := blk_cell fin 8 (v := (.slice oe ne ce)) rfl
                  have r9 := blk_cell fin 9 (v := (.slice (some ⟨b9, off9, none⟩) M c9)) rfl
                  (refine bodyPost_ret (v := .tuple #[.agg #[.bool (decide (128 ≤ g)), .int .u8 GM, .int .u16 sq, .int .u32 st, .int .u32 sc, .slice os ns cs, .bool FH, .int .u16 P7, .slice oe ne ce, .slice (some ⟨b9, off9, none⟩) M c9], .int .i64 0]) ?rr5 rfl ?_; (case rr5 => (simp [results, Try.results31, go_sem, r0, r1, r2, r3, r4, r5, r6, r7, r8, r9])))
                  rw [HQ.out]
                  refine ⟨.slice os ns cs, .slice oe ne ce, .slice (some ⟨b9, off9, none⟩) M c9, rfl, ?_, mf⟩
                  have n1 := H7.out.n0
                  have n2 := H7.out.nB
                  have n3 := H7.out.nR
                  exact ⟨SlI.of_owns (owns_away H7.out.rs aw (fun k hk => by omega)) (owns_small H7.out.rs), SlI.of_owns (owns_away H7.out.re aw (fun k hk => by omega)) (owns_small H7.out.re), SlI.of_owns (owns_away H7.out.rp aw (fun k hk => by omega)) (owns_small H7.out.rp)⟩
        · have hq := Q1.out h8
          have HQ := Lib.hid hq
          have h8b : (S8.2 != 0) = true := by simpa using h8
          clear hq Q1 Q2 Q3 Q4 h8
          have C2 : ∀ x : LaterS (fun b => b = w.heap.size) wc, x.w'.cell? ⟨R, 2, none⟩ = some (.int .i64 S8.2) := fun x => blk_cell (x.h.blk HR9.out (by omega)) 2 rfl
          have g0 := fun n => blk_cell (blk_drewN HC.out.br n) 0 (v := .bool false) rfl
          have k0 := fun n => blk_free (blk_drewN HC.out.br n) 0
          have g1 := fun n => blk_cell (blk_drewN HC.out.br n) 1 (v := .int .u8 0) rfl
          have k1 := fun n => blk_free (blk_drewN HC.out.br n) 1
          have g2 := fun n => blk_cell (blk_drewN HC.out.br n) 2 (v := .int .u16 0) rfl
          have k2 := fun n => blk_free (blk_drewN HC.out.br n) 2
          have g3 := fun n => blk_cell (blk_drewN HC.out.br n) 3 (v := .int .u32 0) rfl
          have k3 := fun n => blk_free (blk_drewN HC.out.br n) 3
          have g4 := fun n => blk_cell (blk_drewN HC.out.br n) 4 (v := .int .u32 0) rfl
          have k4 := fun n => blk_free (blk_drewN HC.out.br n) 4
          have g5 := fun n => blk_cell (blk_drewN HC.out.br n) 5 (v := .slice none 0 0) rfl
          have k5 := fun n => blk_free (blk_drewN HC.out.br n) 5
          have g6 := fun n => blk_cell (blk_drewN HC.out.br n) 6 (v := .bool false) rfl
          have k6 := fun n => blk_free (blk_drewN HC.out.br n) 6
          have g7 := fun n => blk_cell (blk_drewN HC.out.br n) 7 (v := .int .u16 0) rfl
          have k7 := fun n => blk_free (blk_drewN HC.out.br n) 7
          have g8 := fun n => blk_cell (blk_drewN HC.out.br n) 8 (v := .slice none 0 0) rfl
          have k8 := fun n => blk_free (blk_drewN HC.out.br n) 8
          have g9 := fun n => blk_cell (blk_drewN HC.out.br n) 9 (v := .slice none 0 0) rfl
          have k9 := fun n => blk_free (blk_drewN HC.out.br n) 9
          go_wp2_with fail
          refine wp_region_numS (fun b => b = w.heap.size) wc 7 [(0, false), (1, false), (2, false), (3, false), (4, false), (5, true), (6, false)] (by kernel_rfl) (by kernel_rfl) ?_
          iterate 5 (refine num_quiet rfl rfl (laterS_mk (by repeat (first | exact Away.refl _ _ | assumption | refine Away.drewN ?_ _ | refine Away.set ?_ (by first | rfl | exact Or.inl rfl | exact Or.inr rfl) _))) ?_; intro K hK; go_big_quiet_op; go_big_quiet_on)
          (refine num_next rfl rfl ?_; intro K hK; unfold loud; go_simp)
          have fin := st10_blk (blk_drewN HC.out.br 1) (.bool false) (.int .u8 0) (.int .u16 0) (.int .u32 0) (.int .u32 0) (.slice none 0 0) (.bool false) (.int .u16 0) (.slice none 0 0) (.slice none 0 0)
          have mf := (HC.out.more.dr 1).st10 w.heap.size (Nat.le_refl _) (.bool false) (.int .u8 0) (.int .u16 0) (.int .u32 0) (.int .u32 0) (.slice none 0 0) (.bool false) (.int .u16 0) (.slice none 0 0) (.slice none 0 0)
          have aw := (Away.of_more (S := fun b => b = w.heap.size) (More.drewN wc 1)).trans (away_st10 (wc.drewN 1) w.heap.size (.bool false) (.int .u8 0) (.int .u16 0) (.int .u32 0) (.int .u32 0) (.slice none 0 0) (.bool false) (.int .u16 0) (.slice none 0 0) (.slice none 0 0))
          obtain ⟨WF, hWF⟩ : ∃ WF, (((((((((((wc.drewN 1).setCell ⟨w.heap.size, 0, none⟩ (.bool false)).setCell ⟨w.heap.size, 1, none⟩ (.int .u8 0)).setCell ⟨w.heap.size, 2, none⟩ (.int .u16 0)).setCell ⟨w.heap.size, 3, none⟩ (.int .u32 0)).setCell ⟨w.heap.size, 4, none⟩ (.int .u32 0)).setCell ⟨w.heap.size, 5, none⟩ (.slice none 0 0)).setCell ⟨w.heap.size, 6, none⟩ (.bool false)).setCell ⟨w.heap.size, 7, none⟩ (.int .u16 0)).setCell ⟨w.heap.size, 8, none⟩ (.slice none 0 0)).setCell ⟨w.heap.size, 9, none⟩ (.slice none 0 0)) = WF := ⟨_, rfl⟩
          rw [hWF] at fin mf aw ⊢
          clear hWF
          refine ⟨laterS_mk aw, hK _ _ ?_⟩
          clear hK K
          iterate 1 (refine num_quiet rfl rfl (laterS_mk aw) ?_; intro K hK; go_big_quiet_op; go_big_quiet_on)
          refine num_nil ?_
          clear g0 g1 g2 g3 g4 g5 g6 g7 g8 g9 k0 k1 k2 k3 k4 k5 k6 k7 k8 k9 C2 c2
          go_wp2
          have r0 := blk_cell fin 0 (v := (.bool false)) rfl
          have r1 := blk_cell fin 1 (v := (.int .u8 0)) rfl
          have r2 := blk_cell fin 2 (v := (.int .u16 0)) rfl
          have r3 := blk_cell fin 3 (v := (.int .u32 0)) rfl
          have r4 := blk_cell fin 4 (v := (.int .u32 0)) rfl
          have r5 := blk_cell fin 5 (v := (.slice none 0 0)) rfl
          have r6 := blk_cell fin 6 (v := (.bool false)) rfl
          have r7 := blk_cell fin 7 (v := (.int .u16 0)) rfl
          have r8 := blk_cell fin 8 (v := (.slice none 0 0)) rfl
          have r9 := blk_cell fin 9 (v := (.slice none 0 0)) rfl
          (refine bodyPost_ret (v := .tuple #[.agg #[.bool false, .int .u8 0, .int .u16 0, .int .u32 0, .int .u32 0, .slice none 0 0, .bool false, .int .u16 0, .slice none 0 0, .slice none 0 0], .int .i64 S8.2]) ?rr6 rfl ?_; (case rr6 => (simp [results, Try.results31, go_sem, r0, r1, r2, r3, r4, r5, r6, r7, r8, r9])))
          rw [HQ.out]
          exact ⟨.slice none 0 0, .slice none 0 0, .slice none 0 0, rfl, ⟨SlI.nil _ _, SlI.nil _ _, SlI.nil _ _⟩, mf⟩
end Go.Proofs.Ytlnikmcimmnbmaa
