/- Merged from my texts CompM. -/
import Derived.Test.YtlnikmcimmnbmaaMg40
/- The law CompoundBack, walked. -/
namespace Go.Proofs.Ytlnikmcimmnbmaa
set_option linter.unusedSimpArgs false
set_option linter.unusedVariables false
open Go.RowKit Go.Lib
set_option maxRecDepth 100000

theorem chB_bytC {c : Chunk} (h : ChunkOK c) : Byt (chB c) := by
  unfold chB
  have hq : ∀ n s, 0 ≤ s ∧ s ≤ 8 → Byt (bysA n s) := fun n s hs => by rw [bysA_pos n s hs]; exact Byt_bys _ _
  exact byt_app (hq _ _ (by decide)) (byt_app (hq _ _ (by decide)) (byt_app (hq _ _ (by decide)) h.byt))
theorem flC_bytC {l : List Chunk} (h : ∀ c ∈ l, ChunkOK c) : Byt (flC l) := by
  induction l with
  | nil => exact byt_nil
  | cons c l ih =>
    rw [flC_cons]
    exact byt_app (chB_bytC (h c (by simp))) (ih fun d hd => h d (by simp [hd]))
theorem CB_long (l m : List Itm) (b : List Int) (o1 o2 o3 : Option Addr) (c1 c2 c3 : Nat) (w : World) (SL : Hid (SlP 17 RItm w (.slice o1 l.length c1) l)) (SM : Hid (SlP 17 RItm w (.slice o2 m.length c2) m)) (hx : lrgI l = true ∨ (lrgI l = false ∧ lrgI m = true) ∨ (lrgI l = false ∧ lrgI m = false ∧ 400 < b.length)) :
    Calls Try.prog 13 #[.slice o1 l.length c1, .slice o2 m.length c2, .slice o3 b.length c3] w fun e w' => e = .returned (.bool true) ∧ More w w' := by
  rcases hx with h1 | ⟨h1, h2⟩ | ⟨h1, h2, h3⟩
  · have H1 := Lib.hid h1
    clear h1
    go_enter Try.func13, Try.ntmps13
    go_wp2_with (first | (go_at_call 60; ((with_reducible refine (awake10 _).mono ?_); rintro e w1 ⟨rfl, m1⟩; have M1 := Lib.hid m1; clear m1)) | (go_at_call 61; ((with_reducible refine (large10 _ l w1 (SL.out.keep keepsItm M1.out)).mono ?_); rintro e w2 ⟨rfl, m2⟩; rw [H1.out]; have M2 := Lib.hid (M1.out.trans m2); clear m2)))
    go_ret
    exact ⟨rfl, M2.out⟩
  · have H1 := Lib.hid h1
    have H2 := Lib.hid h2
    clear h1 h2
    go_enter Try.func13, Try.ntmps13
    go_wp2_with (first | (go_at_call 60; ((with_reducible refine (awake10 _).mono ?_); rintro e w1 ⟨rfl, m1⟩; have M1 := Lib.hid m1; clear m1)) | (go_at_call 61; ((with_reducible refine (large10 _ l w1 (SL.out.keep keepsItm M1.out)).mono ?_); rintro e w2 ⟨rfl, m2⟩; rw [H1.out]; have M2 := Lib.hid (M1.out.trans m2); clear m2)) | (go_at_call 61; ((with_reducible refine (large10 _ m w2 (SM.out.keep keepsItm M2.out)).mono ?_); rintro e w3 ⟨rfl, m3⟩; rw [H2.out]; have M3 := Lib.hid (M2.out.trans m3); clear m3)))
    go_ret
    exact ⟨rfl, M3.out⟩
  · have H1 := Lib.hid h1
    have H2 := Lib.hid h2
    have h3' : (400 : Int) < (b.length : Int) := by omega
    clear h1 h2 h3
    go_enter Try.func13, Try.ntmps13
    go_wp2_with (first | (go_at_call 60; ((with_reducible refine (awake10 _).mono ?_); rintro e w1 ⟨rfl, m1⟩; have M1 := Lib.hid m1; clear m1)) | (go_at_call 61; ((with_reducible refine (large10 _ l w1 (SL.out.keep keepsItm M1.out)).mono ?_); rintro e w2 ⟨rfl, m2⟩; rw [H1.out]; have M2 := Lib.hid (M1.out.trans m2); clear m2)) | (go_at_call 61; ((with_reducible refine (large10 _ m w2 (SM.out.keep keepsItm M2.out)).mono ?_); rintro e w3 ⟨rfl, m3⟩; rw [H2.out]; have M3 := Lib.hid (M2.out.trans m3); clear m3)))
    go_ret
    exact ⟨rfl, M3.out⟩
set_option maxHeartbeats 8000000 in
theorem CB_a0c0 (l m : List Itm) (b : List Int) (o1 o2 o3 : Option Addr) (c1 c2 c3 : Nat) (w : World) (SL : Hid (SlP 17 RItm w (.slice o1 l.length c1) l)) (SM : Hid (SlP 17 RItm w (.slice o2 m.length c2) m)) (SB : Hid (SlI .u8 w (.slice o3 b.length c3) b)) (HBY : Hid (Byt b)) (H1 : Hid (lrgI l = false)) (H2 : Hid (lrgI m = false)) (h3 : b.length ≤ 400) (KL : Hid (∀ z ∈ l, ItmOK z)) (KM : Hid (∀ z ∈ m, ItmOK z)) (RL : List Itm) (re : Int) (HRE : Hid (readI b = (RL, re))) (HRI : Hid (∀ x ∈ RL, rightI x = true ∧ ItmOK x ∧ ItmN x)) (X : List Int) (f : Int) (Y : List Int) (g : Int) (HWL : Hid (writeI l = (X, f))) (HWM : Hid (writeI m = (Y, g))) (hre : re = 0) (hf : ¬ f = 0) (HX : Hid (X = [])) :
    Calls Try.prog 13 #[.slice o1 l.length c1, .slice o2 m.length c2, .slice o3 b.length c3] w fun e w' => e = .returned (.bool true) ∧ More w w' := by
  have NL := Lib.hid (lrgI_small H1.out)
  have NM := Lib.hid (lrgI_small H2.out)
  have h3' : decide ((400 : Int) < (b.length : Int)) = false := decide_eq_false (by omega)
  subst hre
  have bf : (f != 0) = true := by simp [hf]
  clear hf
  go_enter Try.func13, Try.ntmps13
  go_wp2_with (first | (go_at_call 60; ((with_reducible refine (awake10 _).mono ?_); rintro e w1 ⟨rfl, m1⟩; have M1 := Lib.hid m1; clear m1)) | (go_at_call 61; ((with_reducible refine (large10 _ l w1 (SL.out.keep keepsItm M1.out)).mono ?_); rintro e w2 ⟨rfl, m2⟩; rw [H1.out]; have M2 := Lib.hid (M1.out.trans m2); clear m2)) | (go_at_call 61; ((with_reducible refine (large10 _ m w2 (SM.out.keep keepsItm M2.out)).mono ?_); rintro e w3 ⟨rfl, m3⟩; rw [H2.out]; have M3 := Lib.hid (M2.out.trans m3); clear m3)) | (go_at_call 62; ((with_reducible refine (ReadI_any b _ w3 (SB.out.keep M3.out) HBY.out (by omega)).mono ?_); rintro e w4 ⟨v4, rfl, s4, m4⟩; rw [HRE.out] at s4 ⊢; have S4 := Lib.hid s4; have M4 := Lib.hid (M3.out.trans m4); obtain ⟨o4, c4, rfl, _, he4, _⟩ := items s4; have HE4 := Lib.hid he4; clear m4 s4 he4)))
  obtain ⟨wo, rfl⟩ : ∃ wo : World, wo = w4 := ⟨_, rfl⟩
  go_loopw [44] (fun ix wr => ∃ j : Nat, j ≤ RL.length ∧ ix = .int .i64 j ∧ More wo wr) (fun ix _ => RL.length - (intOf ix).toNat)
  case atStart => exact ⟨0, by omega, rfl, More.refl _⟩
  case round =>
    obtain ⟨j, hj, rfl, hmr⟩ := hrel
    have HMR := Lib.hid hmr
    clear hmr
    by_cases hlt : j < RL.length
    · obtain ⟨b5, off5, ob, cb, oc, cc, od, cd, oe, ce, rfl, hb5, ht5, hs5⟩ := HE4.out j hlt
      have HRG := Lib.hid (RangeAt.more ht5 HMR.out hb5)
      have HRX := Lib.hid (HRI.out (RL.getD j itm0) (by rw [List.getD_eq_getElem?_getD, List.getElem?_eq_getElem hlt]; exact List.getElem_mem hlt))
      have HS5 := Lib.hid (hs5.keep HMR.out)
      have hjl : (j : Int) < (RL.length : Int) := by omega
      have hbw : b5 < wr.heap.size := Nat.lt_of_lt_of_le hb5 HMR.out.size
      clear ht5 hs5
      generalize RL.getD j itm0 = x at *
      go_wp2_with (first | (refine wpList_load_mid rfl 122 (.tmp 46) rfl b5 (off5 + j * 17) rfl [.int .i64 x.kind, .bool x.rep.snd, .int .u32 x.rep.src, .int .u32 x.rep.inf.sec, .int .u32 x.rep.inf.frac, .int .u32 x.rep.inf.stamp, .int .u32 x.rep.inf.pkts, .int .u32 x.rep.inf.octs, .slice ob x.rep.bl.length cb, .int .i64 x.msg.kind, .int .u32 x.msg.snd, .int .u32 x.msg.med, .slice oc x.msg.asks.length cc, .slice od x.msg.lost.length cd, .int .u8 x.oth.1, .int .u8 x.oth.2.1, .slice oe x.oth.2.2.1.length ce] _ HRG.out Try.underlying122 rfl (by kernel_rfl) ?_) | (refine wpList_store_new rfl 122 (.tmp 10) (.tmp 47) rfl wr _ #[.int .i64 x.kind, .bool x.rep.snd, .int .u32 x.rep.src, .int .u32 x.rep.inf.sec, .int .u32 x.rep.inf.frac, .int .u32 x.rep.inf.stamp, .int .u32 x.rep.inf.pkts, .int .u32 x.rep.inf.octs, .slice ob x.rep.bl.length cb, .int .i64 x.msg.kind, .int .u32 x.msg.snd, .int .u32 x.msg.med, .slice oc x.msg.asks.length cc, .slice od x.msg.lost.length cd, .int .u8 x.oth.1, .int .u8 x.oth.2.1, .slice oe x.oth.2.2.1.length ce] rfl rfl rfl (by kernel_rfl) rfl rfl ?_) | (refine wpList_load_row rfl 122 (.tmp 10) rfl wr.heap.size rfl _ #[.int .i64 x.kind, .bool x.rep.snd, .int .u32 x.rep.src, .int .u32 x.rep.inf.sec, .int .u32 x.rep.inf.frac, .int .u32 x.rep.inf.stamp, .int .u32 x.rep.inf.pkts, .int .u32 x.rep.inf.octs, .slice ob x.rep.bl.length cb, .int .i64 x.msg.kind, .int .u32 x.msg.snd, .int .u32 x.msg.med, .slice oc x.msg.asks.length cc, .slice od x.msg.lost.length cd, .int .u8 x.oth.1, .int .u8 x.oth.2.1, .slice oe x.oth.2.2.1.length ce] _ _ (heap_alloc_new wr _) Try.underlying122 rfl (by kernel_rfl) ?_) | (go_at_call 63; ((with_reducible refine (RightI_any x ob oc od oe cb cc cd ce _ (HS5.out.keep (More.alloc _ _)) HRX.out.2.1 HRX.out.2.2).mono ?_); rintro e w6 ⟨rfl, m6⟩; rw [HRX.out.1]; have M6 := Lib.hid (HMR.out.trans ((More.alloc wr (.cells #[.int .i64 x.kind, .bool x.rep.snd, .int .u32 x.rep.src, .int .u32 x.rep.inf.sec, .int .u32 x.rep.inf.frac, .int .u32 x.rep.inf.stamp, .int .u32 x.rep.inf.pkts, .int .u32 x.rep.inf.octs, .slice ob x.rep.bl.length cb, .int .i64 x.msg.kind, .int .u32 x.msg.snd, .int .u32 x.msg.med, .slice oc x.msg.asks.length cc, .slice od x.msg.lost.length cd, .int .u8 x.oth.1, .int .u8 x.oth.2.1, .slice oe x.oth.2.2.1.length ce] 122)).trans m6)); clear m6)))
      go_roundw
      case rel => exact ⟨j + 1, by omega, by go_num, M6.out⟩
      case measure => simp [intOf]; omega
    · obtain rfl : j = RL.length := by omega
      have MW : Hid (More w wr) := Lib.hid (M4.out.trans HMR.out)
      have hX0 : X.length = 0 := by rw [HX.out]; rfl
      have hX0' : ((X.length : Int) == 0) = true := by rw [hX0]; rfl
      clear hX0
      go_wp2_with (first | (go_at_call 64; ((with_reducible refine (WriteI_any l _ wr (SL.out.keep keepsItm MW.out) (by have := NL.out.1; omega) NL.out.2).mono ?_); rintro e w7 ⟨v7, rfl, s7, m7⟩; rw [HWL.out] at s7 ⊢; have S7 := Lib.hid s7; obtain ⟨o7, c7, rfl, _⟩ := s7; have M7 := Lib.hid (MW.out.trans m7); clear m7)) | (go_at_call 64; ((with_reducible refine (WriteI_any m _ w7 (SM.out.keep keepsItm M7.out) (by have := NM.out.1; omega) NM.out.2).mono ?_); rintro e w8 ⟨v8, rfl, s8, m8⟩; rw [HWM.out] at s8 ⊢; have S8 := Lib.hid s8; have S7b := Lib.hid (S7.out.keep m8); have M8 := Lib.hid (M7.out.trans m8); clear m8 s8)))
      go_ret
      exact ⟨rfl, M8.out⟩
set_option maxHeartbeats 8000000 in
theorem CB_a0c1 (l m : List Itm) (b : List Int) (o1 o2 o3 : Option Addr) (c1 c2 c3 : Nat) (w : World) (SL : Hid (SlP 17 RItm w (.slice o1 l.length c1) l)) (SM : Hid (SlP 17 RItm w (.slice o2 m.length c2) m)) (SB : Hid (SlI .u8 w (.slice o3 b.length c3) b)) (HBY : Hid (Byt b)) (H1 : Hid (lrgI l = false)) (H2 : Hid (lrgI m = false)) (h3 : b.length ≤ 400) (KL : Hid (∀ z ∈ l, ItmOK z)) (KM : Hid (∀ z ∈ m, ItmOK z)) (RL : List Itm) (re : Int) (HRE : Hid (readI b = (RL, re))) (HRI : Hid (∀ x ∈ RL, rightI x = true ∧ ItmOK x ∧ ItmN x)) (X : List Int) (f : Int) (Y : List Int) (g : Int) (HWL : Hid (writeI l = (X, f))) (HWM : Hid (writeI m = (Y, g))) (hre : re = 0) (hf : f = 0) (hl0 : l = []) (HX : Hid (X = [])) :
    Calls Try.prog 13 #[.slice o1 l.length c1, .slice o2 m.length c2, .slice o3 b.length c3] w fun e w' => e = .returned (.bool true) ∧ More w w' := by
  have NL := Lib.hid (lrgI_small H1.out)
  have NM := Lib.hid (lrgI_small H2.out)
  have h3' : decide ((400 : Int) < (b.length : Int)) = false := decide_eq_false (by omega)
  subst hre
  subst hf
  have bl0 : ((l.length : Int) == 0) = true := by rw [hl0]; rfl
  clear hl0
  go_enter Try.func13, Try.ntmps13
  go_wp2_with (first | (go_at_call 60; ((with_reducible refine (awake10 _).mono ?_); rintro e w1 ⟨rfl, m1⟩; have M1 := Lib.hid m1; clear m1)) | (go_at_call 61; ((with_reducible refine (large10 _ l w1 (SL.out.keep keepsItm M1.out)).mono ?_); rintro e w2 ⟨rfl, m2⟩; rw [H1.out]; have M2 := Lib.hid (M1.out.trans m2); clear m2)) | (go_at_call 61; ((with_reducible refine (large10 _ m w2 (SM.out.keep keepsItm M2.out)).mono ?_); rintro e w3 ⟨rfl, m3⟩; rw [H2.out]; have M3 := Lib.hid (M2.out.trans m3); clear m3)) | (go_at_call 62; ((with_reducible refine (ReadI_any b _ w3 (SB.out.keep M3.out) HBY.out (by omega)).mono ?_); rintro e w4 ⟨v4, rfl, s4, m4⟩; rw [HRE.out] at s4 ⊢; have S4 := Lib.hid s4; have M4 := Lib.hid (M3.out.trans m4); obtain ⟨o4, c4, rfl, _, he4, _⟩ := items s4; have HE4 := Lib.hid he4; clear m4 s4 he4)))
  obtain ⟨wo, rfl⟩ : ∃ wo : World, wo = w4 := ⟨_, rfl⟩
  go_loopw [44] (fun ix wr => ∃ j : Nat, j ≤ RL.length ∧ ix = .int .i64 j ∧ More wo wr) (fun ix _ => RL.length - (intOf ix).toNat)
  case atStart => exact ⟨0, by omega, rfl, More.refl _⟩
  case round =>
    obtain ⟨j, hj, rfl, hmr⟩ := hrel
    have HMR := Lib.hid hmr
    clear hmr
    by_cases hlt : j < RL.length
    · obtain ⟨b5, off5, ob, cb, oc, cc, od, cd, oe, ce, rfl, hb5, ht5, hs5⟩ := HE4.out j hlt
      have HRG := Lib.hid (RangeAt.more ht5 HMR.out hb5)
      have HRX := Lib.hid (HRI.out (RL.getD j itm0) (by rw [List.getD_eq_getElem?_getD, List.getElem?_eq_getElem hlt]; exact List.getElem_mem hlt))
      have HS5 := Lib.hid (hs5.keep HMR.out)
      have hjl : (j : Int) < (RL.length : Int) := by omega
      have hbw : b5 < wr.heap.size := Nat.lt_of_lt_of_le hb5 HMR.out.size
      clear ht5 hs5
      generalize RL.getD j itm0 = x at *
      go_wp2_with (first | (refine wpList_load_mid rfl 122 (.tmp 46) rfl b5 (off5 + j * 17) rfl [.int .i64 x.kind, .bool x.rep.snd, .int .u32 x.rep.src, .int .u32 x.rep.inf.sec, .int .u32 x.rep.inf.frac, .int .u32 x.rep.inf.stamp, .int .u32 x.rep.inf.pkts, .int .u32 x.rep.inf.octs, .slice ob x.rep.bl.length cb, .int .i64 x.msg.kind, .int .u32 x.msg.snd, .int .u32 x.msg.med, .slice oc x.msg.asks.length cc, .slice od x.msg.lost.length cd, .int .u8 x.oth.1, .int .u8 x.oth.2.1, .slice oe x.oth.2.2.1.length ce] _ HRG.out Try.underlying122 rfl (by kernel_rfl) ?_) | (refine wpList_store_new rfl 122 (.tmp 10) (.tmp 47) rfl wr _ #[.int .i64 x.kind, .bool x.rep.snd, .int .u32 x.rep.src, .int .u32 x.rep.inf.sec, .int .u32 x.rep.inf.frac, .int .u32 x.rep.inf.stamp, .int .u32 x.rep.inf.pkts, .int .u32 x.rep.inf.octs, .slice ob x.rep.bl.length cb, .int .i64 x.msg.kind, .int .u32 x.msg.snd, .int .u32 x.msg.med, .slice oc x.msg.asks.length cc, .slice od x.msg.lost.length cd, .int .u8 x.oth.1, .int .u8 x.oth.2.1, .slice oe x.oth.2.2.1.length ce] rfl rfl rfl (by kernel_rfl) rfl rfl ?_) | (refine wpList_load_row rfl 122 (.tmp 10) rfl wr.heap.size rfl _ #[.int .i64 x.kind, .bool x.rep.snd, .int .u32 x.rep.src, .int .u32 x.rep.inf.sec, .int .u32 x.rep.inf.frac, .int .u32 x.rep.inf.stamp, .int .u32 x.rep.inf.pkts, .int .u32 x.rep.inf.octs, .slice ob x.rep.bl.length cb, .int .i64 x.msg.kind, .int .u32 x.msg.snd, .int .u32 x.msg.med, .slice oc x.msg.asks.length cc, .slice od x.msg.lost.length cd, .int .u8 x.oth.1, .int .u8 x.oth.2.1, .slice oe x.oth.2.2.1.length ce] _ _ (heap_alloc_new wr _) Try.underlying122 rfl (by kernel_rfl) ?_) | (go_at_call 63; ((with_reducible refine (RightI_any x ob oc od oe cb cc cd ce _ (HS5.out.keep (More.alloc _ _)) HRX.out.2.1 HRX.out.2.2).mono ?_); rintro e w6 ⟨rfl, m6⟩; rw [HRX.out.1]; have M6 := Lib.hid (HMR.out.trans ((More.alloc wr (.cells #[.int .i64 x.kind, .bool x.rep.snd, .int .u32 x.rep.src, .int .u32 x.rep.inf.sec, .int .u32 x.rep.inf.frac, .int .u32 x.rep.inf.stamp, .int .u32 x.rep.inf.pkts, .int .u32 x.rep.inf.octs, .slice ob x.rep.bl.length cb, .int .i64 x.msg.kind, .int .u32 x.msg.snd, .int .u32 x.msg.med, .slice oc x.msg.asks.length cc, .slice od x.msg.lost.length cd, .int .u8 x.oth.1, .int .u8 x.oth.2.1, .slice oe x.oth.2.2.1.length ce] 122)).trans m6)); clear m6)))
      go_roundw
      case rel => exact ⟨j + 1, by omega, by go_num, M6.out⟩
      case measure => simp [intOf]; omega
    · obtain rfl : j = RL.length := by omega
      have MW : Hid (More w wr) := Lib.hid (M4.out.trans HMR.out)
      have hX0 : X.length = 0 := by rw [HX.out]; rfl
      have hX0' : ((X.length : Int) == 0) = true := by rw [hX0]; rfl
      clear hX0
      go_wp2_with (first | (go_at_call 64; ((with_reducible refine (WriteI_any l _ wr (SL.out.keep keepsItm MW.out) (by have := NL.out.1; omega) NL.out.2).mono ?_); rintro e w7 ⟨v7, rfl, s7, m7⟩; rw [HWL.out] at s7 ⊢; have S7 := Lib.hid s7; obtain ⟨o7, c7, rfl, _⟩ := s7; have M7 := Lib.hid (MW.out.trans m7); clear m7)) | (go_at_call 64; ((with_reducible refine (WriteI_any m _ w7 (SM.out.keep keepsItm M7.out) (by have := NM.out.1; omega) NM.out.2).mono ?_); rintro e w8 ⟨v8, rfl, s8, m8⟩; rw [HWM.out] at s8 ⊢; have S8 := Lib.hid s8; have S7b := Lib.hid (S7.out.keep m8); have M8 := Lib.hid (M7.out.trans m8); clear m8 s8)))
      go_ret
      exact ⟨rfl, M8.out⟩
set_option maxHeartbeats 8000000 in
theorem CB_a0c2 (l m : List Itm) (b : List Int) (o1 o2 o3 : Option Addr) (c1 c2 c3 : Nat) (w : World) (SL : Hid (SlP 17 RItm w (.slice o1 l.length c1) l)) (SM : Hid (SlP 17 RItm w (.slice o2 m.length c2) m)) (SB : Hid (SlI .u8 w (.slice o3 b.length c3) b)) (HBY : Hid (Byt b)) (H1 : Hid (lrgI l = false)) (H2 : Hid (lrgI m = false)) (h3 : b.length ≤ 400) (KL : Hid (∀ z ∈ l, ItmOK z)) (KM : Hid (∀ z ∈ m, ItmOK z)) (RL : List Itm) (re : Int) (HRE : Hid (readI b = (RL, re))) (HRI : Hid (∀ x ∈ RL, rightI x = true ∧ ItmOK x ∧ ItmN x)) (X : List Int) (f : Int) (Y : List Int) (g : Int) (HWL : Hid (writeI l = (X, f))) (HWM : Hid (writeI m = (Y, g))) (hre : re = 0) (hf : f = 0) (hl0 : 0 < l.length) (HBK : Hid (readI X = (l, 0))) (hX : X.length ≤ 200) (HXB : Hid (Byt X)) (hg : ¬ g = 0) :
    Calls Try.prog 13 #[.slice o1 l.length c1, .slice o2 m.length c2, .slice o3 b.length c3] w fun e w' => e = .returned (.bool true) ∧ More w w' := by
  have NL := Lib.hid (lrgI_small H1.out)
  have NM := Lib.hid (lrgI_small H2.out)
  have h3' : decide ((400 : Int) < (b.length : Int)) = false := decide_eq_false (by omega)
  subst hre
  subst hf
  have bl0 : ((l.length : Int) == 0) = false := by simp; intro e; rw [e] at hl0; exact absurd hl0 (by simp)
  have hX' : (X.length : Int) ≤ 200 := by omega
  have bg : (g != 0) = true := by simp [hg]
  clear hg
  go_enter Try.func13, Try.ntmps13
  go_wp2_with (first | (go_at_call 60; ((with_reducible refine (awake10 _).mono ?_); rintro e w1 ⟨rfl, m1⟩; have M1 := Lib.hid m1; clear m1)) | (go_at_call 61; ((with_reducible refine (large10 _ l w1 (SL.out.keep keepsItm M1.out)).mono ?_); rintro e w2 ⟨rfl, m2⟩; rw [H1.out]; have M2 := Lib.hid (M1.out.trans m2); clear m2)) | (go_at_call 61; ((with_reducible refine (large10 _ m w2 (SM.out.keep keepsItm M2.out)).mono ?_); rintro e w3 ⟨rfl, m3⟩; rw [H2.out]; have M3 := Lib.hid (M2.out.trans m3); clear m3)) | (go_at_call 62; ((with_reducible refine (ReadI_any b _ w3 (SB.out.keep M3.out) HBY.out (by omega)).mono ?_); rintro e w4 ⟨v4, rfl, s4, m4⟩; rw [HRE.out] at s4 ⊢; have S4 := Lib.hid s4; have M4 := Lib.hid (M3.out.trans m4); obtain ⟨o4, c4, rfl, _, he4, _⟩ := items s4; have HE4 := Lib.hid he4; clear m4 s4 he4)))
  obtain ⟨wo, rfl⟩ : ∃ wo : World, wo = w4 := ⟨_, rfl⟩
  go_loopw [44] (fun ix wr => ∃ j : Nat, j ≤ RL.length ∧ ix = .int .i64 j ∧ More wo wr) (fun ix _ => RL.length - (intOf ix).toNat)
  case atStart => exact ⟨0, by omega, rfl, More.refl _⟩
  case round =>
    obtain ⟨j, hj, rfl, hmr⟩ := hrel
    have HMR := Lib.hid hmr
    clear hmr
    by_cases hlt : j < RL.length
    · obtain ⟨b5, off5, ob, cb, oc, cc, od, cd, oe, ce, rfl, hb5, ht5, hs5⟩ := HE4.out j hlt
      have HRG := Lib.hid (RangeAt.more ht5 HMR.out hb5)
      have HRX := Lib.hid (HRI.out (RL.getD j itm0) (by rw [List.getD_eq_getElem?_getD, List.getElem?_eq_getElem hlt]; exact List.getElem_mem hlt))
      have HS5 := Lib.hid (hs5.keep HMR.out)
      have hjl : (j : Int) < (RL.length : Int) := by omega
      have hbw : b5 < wr.heap.size := Nat.lt_of_lt_of_le hb5 HMR.out.size
      clear ht5 hs5
      generalize RL.getD j itm0 = x at *
      go_wp2_with (first | (refine wpList_load_mid rfl 122 (.tmp 46) rfl b5 (off5 + j * 17) rfl [.int .i64 x.kind, .bool x.rep.snd, .int .u32 x.rep.src, .int .u32 x.rep.inf.sec, .int .u32 x.rep.inf.frac, .int .u32 x.rep.inf.stamp, .int .u32 x.rep.inf.pkts, .int .u32 x.rep.inf.octs, .slice ob x.rep.bl.length cb, .int .i64 x.msg.kind, .int .u32 x.msg.snd, .int .u32 x.msg.med, .slice oc x.msg.asks.length cc, .slice od x.msg.lost.length cd, .int .u8 x.oth.1, .int .u8 x.oth.2.1, .slice oe x.oth.2.2.1.length ce] _ HRG.out Try.underlying122 rfl (by kernel_rfl) ?_) | (refine wpList_store_new rfl 122 (.tmp 10) (.tmp 47) rfl wr _ #[.int .i64 x.kind, .bool x.rep.snd, .int .u32 x.rep.src, .int .u32 x.rep.inf.sec, .int .u32 x.rep.inf.frac, .int .u32 x.rep.inf.stamp, .int .u32 x.rep.inf.pkts, .int .u32 x.rep.inf.octs, .slice ob x.rep.bl.length cb, .int .i64 x.msg.kind, .int .u32 x.msg.snd, .int .u32 x.msg.med, .slice oc x.msg.asks.length cc, .slice od x.msg.lost.length cd, .int .u8 x.oth.1, .int .u8 x.oth.2.1, .slice oe x.oth.2.2.1.length ce] rfl rfl rfl (by kernel_rfl) rfl rfl ?_) | (refine wpList_load_row rfl 122 (.tmp 10) rfl wr.heap.size rfl _ #[.int .i64 x.kind, .bool x.rep.snd, .int .u32 x.rep.src, .int .u32 x.rep.inf.sec, .int .u32 x.rep.inf.frac, .int .u32 x.rep.inf.stamp, .int .u32 x.rep.inf.pkts, .int .u32 x.rep.inf.octs, .slice ob x.rep.bl.length cb, .int .i64 x.msg.kind, .int .u32 x.msg.snd, .int .u32 x.msg.med, .slice oc x.msg.asks.length cc, .slice od x.msg.lost.length cd, .int .u8 x.oth.1, .int .u8 x.oth.2.1, .slice oe x.oth.2.2.1.length ce] _ _ (heap_alloc_new wr _) Try.underlying122 rfl (by kernel_rfl) ?_) | (go_at_call 63; ((with_reducible refine (RightI_any x ob oc od oe cb cc cd ce _ (HS5.out.keep (More.alloc _ _)) HRX.out.2.1 HRX.out.2.2).mono ?_); rintro e w6 ⟨rfl, m6⟩; rw [HRX.out.1]; have M6 := Lib.hid (HMR.out.trans ((More.alloc wr (.cells #[.int .i64 x.kind, .bool x.rep.snd, .int .u32 x.rep.src, .int .u32 x.rep.inf.sec, .int .u32 x.rep.inf.frac, .int .u32 x.rep.inf.stamp, .int .u32 x.rep.inf.pkts, .int .u32 x.rep.inf.octs, .slice ob x.rep.bl.length cb, .int .i64 x.msg.kind, .int .u32 x.msg.snd, .int .u32 x.msg.med, .slice oc x.msg.asks.length cc, .slice od x.msg.lost.length cd, .int .u8 x.oth.1, .int .u8 x.oth.2.1, .slice oe x.oth.2.2.1.length ce] 122)).trans m6)); clear m6)))
      go_roundw
      case rel => exact ⟨j + 1, by omega, by go_num, M6.out⟩
      case measure => simp [intOf]; omega
    · obtain rfl : j = RL.length := by omega
      have MW : Hid (More w wr) := Lib.hid (M4.out.trans HMR.out)
      go_wp2_with (first | (go_at_call 64; ((with_reducible refine (WriteI_any l _ wr (SL.out.keep keepsItm MW.out) (by have := NL.out.1; omega) NL.out.2).mono ?_); rintro e w7 ⟨v7, rfl, s7, m7⟩; rw [HWL.out] at s7 ⊢; have S7 := Lib.hid s7; obtain ⟨o7, c7, rfl, _⟩ := s7; have M7 := Lib.hid (MW.out.trans m7); clear m7)) | (go_at_call 64; ((with_reducible refine (WriteI_any m _ w7 (SM.out.keep keepsItm M7.out) (by have := NM.out.1; omega) NM.out.2).mono ?_); rintro e w8 ⟨v8, rfl, s8, m8⟩; rw [HWM.out] at s8 ⊢; have S8 := Lib.hid s8; have S7b := Lib.hid (S7.out.keep m8); have M8 := Lib.hid (M7.out.trans m8); clear m8 s8)) | (go_at_call 62; ((with_reducible refine (ReadI_any X _ w8 S7b.out HXB.out (by omega)).mono ?_); rintro e w9 ⟨v9, rfl, s9, m9⟩; rw [HBK.out] at s9 ⊢; have S9 := Lib.hid s9; have M9 := Lib.hid (M8.out.trans m9); have S7c := Lib.hid (S7b.out.keep m9); have S8b := Lib.hid (S8.out.keep m9); clear m9 s9)) | (go_at_call 66; ((with_reducible refine (own10 l v9 w9 S9.out (by have := NL.out.1; omega) NL.out.2).mono ?_); rintro e w10 ⟨v10, rfl, s10, m10⟩; have S10 := Lib.hid s10; have M10 := Lib.hid (M9.out.trans m10); have S7d := Lib.hid (S7c.out.keep m10); have S8d := Lib.hid (S8b.out.keep m10); clear m10 s10)) | (go_at_call 66; ((with_reducible refine (own10 l (.slice o1 l.length c1) w10 (SL.out.keep keepsItm M10.out) (by have := NL.out.1; omega) NL.out.2).mono ?_); rintro e w11 ⟨v11, rfl, s11, m11⟩; have S11 := Lib.hid s11; have S10b := Lib.hid (S10.out.keep keepsItm m11); have M11 := Lib.hid (M10.out.trans m11); have S7e := Lib.hid (S7d.out.keep m11); have S8e := Lib.hid (S8d.out.keep m11); clear m11 s11)) | (go_at_call 65; ((with_reducible refine (Same10_any l l v10 v11 w11 S10b.out S11.out).mono ?_); rintro e w12 ⟨rfl, m12⟩; rw [decide_eq_true rfl]; have M12 := Lib.hid (M11.out.trans m12); have S7f := Lib.hid (S7e.out.keep m12); have S8f := Lib.hid (S8e.out.keep m12); clear m12)))
      go_ret
      exact ⟨rfl, M12.out⟩
set_option maxHeartbeats 8000000 in
theorem CB_a0c3 (l m : List Itm) (b : List Int) (o1 o2 o3 : Option Addr) (c1 c2 c3 : Nat) (w : World) (SL : Hid (SlP 17 RItm w (.slice o1 l.length c1) l)) (SM : Hid (SlP 17 RItm w (.slice o2 m.length c2) m)) (SB : Hid (SlI .u8 w (.slice o3 b.length c3) b)) (HBY : Hid (Byt b)) (H1 : Hid (lrgI l = false)) (H2 : Hid (lrgI m = false)) (h3 : b.length ≤ 400) (KL : Hid (∀ z ∈ l, ItmOK z)) (KM : Hid (∀ z ∈ m, ItmOK z)) (RL : List Itm) (re : Int) (HRE : Hid (readI b = (RL, re))) (HRI : Hid (∀ x ∈ RL, rightI x = true ∧ ItmOK x ∧ ItmN x)) (X : List Int) (f : Int) (Y : List Int) (g : Int) (HWL : Hid (writeI l = (X, f))) (HWM : Hid (writeI m = (Y, g))) (hre : re = 0) (hf : f = 0) (hl0 : 0 < l.length) (HBK : Hid (readI X = (l, 0))) (hX : X.length ≤ 200) (HXB : Hid (Byt X)) (hg : g = 0) (q : Bool) (HQ1 : Hid (decide (X = Y) = q)) (HQ2 : Hid (decide (l = m) = q)) :
    Calls Try.prog 13 #[.slice o1 l.length c1, .slice o2 m.length c2, .slice o3 b.length c3] w fun e w' => e = .returned (.bool true) ∧ More w w' := by
  have NL := Lib.hid (lrgI_small H1.out)
  have NM := Lib.hid (lrgI_small H2.out)
  have h3' : decide ((400 : Int) < (b.length : Int)) = false := decide_eq_false (by omega)
  subst hre
  subst hf
  have bl0 : ((l.length : Int) == 0) = false := by simp; intro e; rw [e] at hl0; exact absurd hl0 (by simp)
  have hX' : (X.length : Int) ≤ 200 := by omega
  subst hg
  go_enter Try.func13, Try.ntmps13
  go_wp2_with (first | (go_at_call 60; ((with_reducible refine (awake10 _).mono ?_); rintro e w1 ⟨rfl, m1⟩; have M1 := Lib.hid m1; clear m1)) | (go_at_call 61; ((with_reducible refine (large10 _ l w1 (SL.out.keep keepsItm M1.out)).mono ?_); rintro e w2 ⟨rfl, m2⟩; rw [H1.out]; have M2 := Lib.hid (M1.out.trans m2); clear m2)) | (go_at_call 61; ((with_reducible refine (large10 _ m w2 (SM.out.keep keepsItm M2.out)).mono ?_); rintro e w3 ⟨rfl, m3⟩; rw [H2.out]; have M3 := Lib.hid (M2.out.trans m3); clear m3)) | (go_at_call 62; ((with_reducible refine (ReadI_any b _ w3 (SB.out.keep M3.out) HBY.out (by omega)).mono ?_); rintro e w4 ⟨v4, rfl, s4, m4⟩; rw [HRE.out] at s4 ⊢; have S4 := Lib.hid s4; have M4 := Lib.hid (M3.out.trans m4); obtain ⟨o4, c4, rfl, _, he4, _⟩ := items s4; have HE4 := Lib.hid he4; clear m4 s4 he4)))
  obtain ⟨wo, rfl⟩ : ∃ wo : World, wo = w4 := ⟨_, rfl⟩
  go_loopw [44] (fun ix wr => ∃ j : Nat, j ≤ RL.length ∧ ix = .int .i64 j ∧ More wo wr) (fun ix _ => RL.length - (intOf ix).toNat)
  case atStart => exact ⟨0, by omega, rfl, More.refl _⟩
  case round =>
    obtain ⟨j, hj, rfl, hmr⟩ := hrel
    have HMR := Lib.hid hmr
    clear hmr
    by_cases hlt : j < RL.length
    · obtain ⟨b5, off5, ob, cb, oc, cc, od, cd, oe, ce, rfl, hb5, ht5, hs5⟩ := HE4.out j hlt
      have HRG := Lib.hid (RangeAt.more ht5 HMR.out hb5)
      have HRX := Lib.hid (HRI.out (RL.getD j itm0) (by rw [List.getD_eq_getElem?_getD, List.getElem?_eq_getElem hlt]; exact List.getElem_mem hlt))
      have HS5 := Lib.hid (hs5.keep HMR.out)
      have hjl : (j : Int) < (RL.length : Int) := by omega
      have hbw : b5 < wr.heap.size := Nat.lt_of_lt_of_le hb5 HMR.out.size
      clear ht5 hs5
      generalize RL.getD j itm0 = x at *
      go_wp2_with (first | (refine wpList_load_mid rfl 122 (.tmp 46) rfl b5 (off5 + j * 17) rfl [.int .i64 x.kind, .bool x.rep.snd, .int .u32 x.rep.src, .int .u32 x.rep.inf.sec, .int .u32 x.rep.inf.frac, .int .u32 x.rep.inf.stamp, .int .u32 x.rep.inf.pkts, .int .u32 x.rep.inf.octs, .slice ob x.rep.bl.length cb, .int .i64 x.msg.kind, .int .u32 x.msg.snd, .int .u32 x.msg.med, .slice oc x.msg.asks.length cc, .slice od x.msg.lost.length cd, .int .u8 x.oth.1, .int .u8 x.oth.2.1, .slice oe x.oth.2.2.1.length ce] _ HRG.out Try.underlying122 rfl (by kernel_rfl) ?_) | (refine wpList_store_new rfl 122 (.tmp 10) (.tmp 47) rfl wr _ #[.int .i64 x.kind, .bool x.rep.snd, .int .u32 x.rep.src, .int .u32 x.rep.inf.sec, .int .u32 x.rep.inf.frac, .int .u32 x.rep.inf.stamp, .int .u32 x.rep.inf.pkts, .int .u32 x.rep.inf.octs, .slice ob x.rep.bl.length cb, .int .i64 x.msg.kind, .int .u32 x.msg.snd, .int .u32 x.msg.med, .slice oc x.msg.asks.length cc, .slice od x.msg.lost.length cd, .int .u8 x.oth.1, .int .u8 x.oth.2.1, .slice oe x.oth.2.2.1.length ce] rfl rfl rfl (by kernel_rfl) rfl rfl ?_) | (refine wpList_load_row rfl 122 (.tmp 10) rfl wr.heap.size rfl _ #[.int .i64 x.kind, .bool x.rep.snd, .int .u32 x.rep.src, .int .u32 x.rep.inf.sec, .int .u32 x.rep.inf.frac, .int .u32 x.rep.inf.stamp, .int .u32 x.rep.inf.pkts, .int .u32 x.rep.inf.octs, .slice ob x.rep.bl.length cb, .int .i64 x.msg.kind, .int .u32 x.msg.snd, .int .u32 x.msg.med, .slice oc x.msg.asks.length cc, .slice od x.msg.lost.length cd, .int .u8 x.oth.1, .int .u8 x.oth.2.1, .slice oe x.oth.2.2.1.length ce] _ _ (heap_alloc_new wr _) Try.underlying122 rfl (by kernel_rfl) ?_) | (go_at_call 63; ((with_reducible refine (RightI_any x ob oc od oe cb cc cd ce _ (HS5.out.keep (More.alloc _ _)) HRX.out.2.1 HRX.out.2.2).mono ?_); rintro e w6 ⟨rfl, m6⟩; rw [HRX.out.1]; have M6 := Lib.hid (HMR.out.trans ((More.alloc wr (.cells #[.int .i64 x.kind, .bool x.rep.snd, .int .u32 x.rep.src, .int .u32 x.rep.inf.sec, .int .u32 x.rep.inf.frac, .int .u32 x.rep.inf.stamp, .int .u32 x.rep.inf.pkts, .int .u32 x.rep.inf.octs, .slice ob x.rep.bl.length cb, .int .i64 x.msg.kind, .int .u32 x.msg.snd, .int .u32 x.msg.med, .slice oc x.msg.asks.length cc, .slice od x.msg.lost.length cd, .int .u8 x.oth.1, .int .u8 x.oth.2.1, .slice oe x.oth.2.2.1.length ce] 122)).trans m6)); clear m6)))
      go_roundw
      case rel => exact ⟨j + 1, by omega, by go_num, M6.out⟩
      case measure => simp [intOf]; omega
    · obtain rfl : j = RL.length := by omega
      have MW : Hid (More w wr) := Lib.hid (M4.out.trans HMR.out)
      go_wp2_with (first | (go_at_call 64; ((with_reducible refine (WriteI_any l _ wr (SL.out.keep keepsItm MW.out) (by have := NL.out.1; omega) NL.out.2).mono ?_); rintro e w7 ⟨v7, rfl, s7, m7⟩; rw [HWL.out] at s7 ⊢; have S7 := Lib.hid s7; obtain ⟨o7, c7, rfl, _⟩ := s7; have M7 := Lib.hid (MW.out.trans m7); clear m7)) | (go_at_call 64; ((with_reducible refine (WriteI_any m _ w7 (SM.out.keep keepsItm M7.out) (by have := NM.out.1; omega) NM.out.2).mono ?_); rintro e w8 ⟨v8, rfl, s8, m8⟩; rw [HWM.out] at s8 ⊢; have S8 := Lib.hid s8; have S7b := Lib.hid (S7.out.keep m8); have M8 := Lib.hid (M7.out.trans m8); clear m8 s8)) | (go_at_call 62; ((with_reducible refine (ReadI_any X _ w8 S7b.out HXB.out (by omega)).mono ?_); rintro e w9 ⟨v9, rfl, s9, m9⟩; rw [HBK.out] at s9 ⊢; have S9 := Lib.hid s9; have M9 := Lib.hid (M8.out.trans m9); have S7c := Lib.hid (S7b.out.keep m9); have S8b := Lib.hid (S8.out.keep m9); clear m9 s9)) | (go_at_call 66; ((with_reducible refine (own10 l v9 w9 S9.out (by have := NL.out.1; omega) NL.out.2).mono ?_); rintro e w10 ⟨v10, rfl, s10, m10⟩; have S10 := Lib.hid s10; have M10 := Lib.hid (M9.out.trans m10); have S7d := Lib.hid (S7c.out.keep m10); have S8d := Lib.hid (S8b.out.keep m10); clear m10 s10)) | (go_at_call 66; ((with_reducible refine (own10 l (.slice o1 l.length c1) w10 (SL.out.keep keepsItm M10.out) (by have := NL.out.1; omega) NL.out.2).mono ?_); rintro e w11 ⟨v11, rfl, s11, m11⟩; have S11 := Lib.hid s11; have S10b := Lib.hid (S10.out.keep keepsItm m11); have M11 := Lib.hid (M10.out.trans m11); have S7e := Lib.hid (S7d.out.keep m11); have S8e := Lib.hid (S8d.out.keep m11); clear m11 s11)) | (go_at_call 65; ((with_reducible refine (Same10_any l l v10 v11 w11 S10b.out S11.out).mono ?_); rintro e w12 ⟨rfl, m12⟩; rw [decide_eq_true rfl]; have M12 := Lib.hid (M11.out.trans m12); have S7f := Lib.hid (S7e.out.keep m12); have S8f := Lib.hid (S8e.out.keep m12); clear m12)) | (go_at_call 34; ((with_reducible refine (Same_any X Y _ _ w12 S7f.out S8f.out).mono ?_); rintro e w13 ⟨rfl, k13, e13⟩; rw [HQ1.out]; have M13 : Hid (More w w13) := Lib.hid (by rw [e13]; exact M12.out.dr _); clear e13)) | (go_at_call 66; ((with_reducible refine (own10 l (.slice o1 l.length c1) w13 (SL.out.keep keepsItm M13.out) (by have := NL.out.1; omega) NL.out.2).mono ?_); rintro e w14 ⟨v14, rfl, s14, m14⟩; have S14 := Lib.hid s14; have M14 := Lib.hid (M13.out.trans m14); clear m14 s14)) | (go_at_call 66; ((with_reducible refine (own10 m (.slice o2 m.length c2) w14 (SM.out.keep keepsItm M14.out) (by have := NM.out.1; omega) NM.out.2).mono ?_); rintro e w15 ⟨v15, rfl, s15, m15⟩; have S15 := Lib.hid s15; have S14b := Lib.hid (S14.out.keep keepsItm m15); have M15 := Lib.hid (M14.out.trans m15); clear m15 s15)) | (go_at_call 65; ((with_reducible refine (Same10_any l m v14 v15 w15 S14b.out S15.out).mono ?_); rintro e w16 ⟨rfl, m16⟩; rw [HQ2.out]; have M16 := Lib.hid (M15.out.trans m16); clear m16)))
      go_ret
      exact ⟨ret_bool (by cases q <;> rfl), M16.out⟩
set_option maxHeartbeats 8000000 in
theorem CB_a1c0 (l m : List Itm) (b : List Int) (o1 o2 o3 : Option Addr) (c1 c2 c3 : Nat) (w : World) (SL : Hid (SlP 17 RItm w (.slice o1 l.length c1) l)) (SM : Hid (SlP 17 RItm w (.slice o2 m.length c2) m)) (SB : Hid (SlI .u8 w (.slice o3 b.length c3) b)) (HBY : Hid (Byt b)) (H1 : Hid (lrgI l = false)) (H2 : Hid (lrgI m = false)) (h3 : b.length ≤ 400) (KL : Hid (∀ z ∈ l, ItmOK z)) (KM : Hid (∀ z ∈ m, ItmOK z)) (RL : List Itm) (re : Int) (HRE : Hid (readI b = (RL, re))) (HRI : Hid (∀ x ∈ RL, rightI x = true ∧ ItmOK x ∧ ItmN x)) (X : List Int) (f : Int) (Y : List Int) (g : Int) (HWL : Hid (writeI l = (X, f))) (HWM : Hid (writeI m = (Y, g))) (hre : ¬ re = 0 ∧ RL = []) (hf : ¬ f = 0) (HX : Hid (X = [])) :
    Calls Try.prog 13 #[.slice o1 l.length c1, .slice o2 m.length c2, .slice o3 b.length c3] w fun e w' => e = .returned (.bool true) ∧ More w w' := by
  have NL := Lib.hid (lrgI_small H1.out)
  have NM := Lib.hid (lrgI_small H2.out)
  have h3' : decide ((400 : Int) < (b.length : Int)) = false := decide_eq_false (by omega)
  obtain ⟨hre, rfl⟩ := hre
  have bre : (re != 0) = true := by simp [hre]
  have bf : (f != 0) = true := by simp [hf]
  clear hf
  go_enter Try.func13, Try.ntmps13
  go_wp2_with (first | (go_at_call 60; ((with_reducible refine (awake10 _).mono ?_); rintro e w1 ⟨rfl, m1⟩; have M1 := Lib.hid m1; clear m1)) | (go_at_call 61; ((with_reducible refine (large10 _ l w1 (SL.out.keep keepsItm M1.out)).mono ?_); rintro e w2 ⟨rfl, m2⟩; rw [H1.out]; have M2 := Lib.hid (M1.out.trans m2); clear m2)) | (go_at_call 61; ((with_reducible refine (large10 _ m w2 (SM.out.keep keepsItm M2.out)).mono ?_); rintro e w3 ⟨rfl, m3⟩; rw [H2.out]; have M3 := Lib.hid (M2.out.trans m3); clear m3)) | (go_at_call 62; ((with_reducible refine (ReadI_any b _ w3 (SB.out.keep M3.out) HBY.out (by omega)).mono ?_); rintro e w4 ⟨v4, rfl, s4, m4⟩; rw [HRE.out] at s4 ⊢; have S4 := Lib.hid s4; have M4 := Lib.hid (M3.out.trans m4); obtain ⟨o4, c4, rfl, _, he4, _⟩ := items s4; have HE4 := Lib.hid he4; clear m4 s4 he4)))
  obtain ⟨wo, rfl⟩ : ∃ wo : World, wo = w4 := ⟨_, rfl⟩
  go_loopw [44] (fun ix wr => ∃ j : Nat, j ≤ 0 ∧ ix = .int .i64 j ∧ More wo wr) (fun ix _ => 0 - (intOf ix).toNat)
  case atStart => exact ⟨0, by omega, rfl, More.refl _⟩
  case round =>
    obtain ⟨j, hj, rfl, hmr⟩ := hrel
    have HMR := Lib.hid hmr
    clear hmr
    obtain rfl : j = 0 := by omega
    have MW : Hid (More w wr) := Lib.hid (M4.out.trans HMR.out)
    have hX0 : X.length = 0 := by rw [HX.out]; rfl
    have hX0' : ((X.length : Int) == 0) = true := by rw [hX0]; rfl
    clear hX0
    go_wp2_with (first | (go_at_call 64; ((with_reducible refine (WriteI_any l _ wr (SL.out.keep keepsItm MW.out) (by have := NL.out.1; omega) NL.out.2).mono ?_); rintro e w7 ⟨v7, rfl, s7, m7⟩; rw [HWL.out] at s7 ⊢; have S7 := Lib.hid s7; obtain ⟨o7, c7, rfl, _⟩ := s7; have M7 := Lib.hid (MW.out.trans m7); clear m7)) | (go_at_call 64; ((with_reducible refine (WriteI_any m _ w7 (SM.out.keep keepsItm M7.out) (by have := NM.out.1; omega) NM.out.2).mono ?_); rintro e w8 ⟨v8, rfl, s8, m8⟩; rw [HWM.out] at s8 ⊢; have S8 := Lib.hid s8; have S7b := Lib.hid (S7.out.keep m8); have M8 := Lib.hid (M7.out.trans m8); clear m8 s8)))
    go_ret
    exact ⟨rfl, M8.out⟩
set_option maxHeartbeats 8000000 in
theorem CB_a1c1 (l m : List Itm) (b : List Int) (o1 o2 o3 : Option Addr) (c1 c2 c3 : Nat) (w : World) (SL : Hid (SlP 17 RItm w (.slice o1 l.length c1) l)) (SM : Hid (SlP 17 RItm w (.slice o2 m.length c2) m)) (SB : Hid (SlI .u8 w (.slice o3 b.length c3) b)) (HBY : Hid (Byt b)) (H1 : Hid (lrgI l = false)) (H2 : Hid (lrgI m = false)) (h3 : b.length ≤ 400) (KL : Hid (∀ z ∈ l, ItmOK z)) (KM : Hid (∀ z ∈ m, ItmOK z)) (RL : List Itm) (re : Int) (HRE : Hid (readI b = (RL, re))) (HRI : Hid (∀ x ∈ RL, rightI x = true ∧ ItmOK x ∧ ItmN x)) (X : List Int) (f : Int) (Y : List Int) (g : Int) (HWL : Hid (writeI l = (X, f))) (HWM : Hid (writeI m = (Y, g))) (hre : ¬ re = 0 ∧ RL = []) (hf : f = 0) (hl0 : l = []) (HX : Hid (X = [])) :
    Calls Try.prog 13 #[.slice o1 l.length c1, .slice o2 m.length c2, .slice o3 b.length c3] w fun e w' => e = .returned (.bool true) ∧ More w w' := by
  have NL := Lib.hid (lrgI_small H1.out)
  have NM := Lib.hid (lrgI_small H2.out)
  have h3' : decide ((400 : Int) < (b.length : Int)) = false := decide_eq_false (by omega)
  obtain ⟨hre, rfl⟩ := hre
  have bre : (re != 0) = true := by simp [hre]
  subst hf
  have bl0 : ((l.length : Int) == 0) = true := by rw [hl0]; rfl
  clear hl0
  go_enter Try.func13, Try.ntmps13
  go_wp2_with (first | (go_at_call 60; ((with_reducible refine (awake10 _).mono ?_); rintro e w1 ⟨rfl, m1⟩; have M1 := Lib.hid m1; clear m1)) | (go_at_call 61; ((with_reducible refine (large10 _ l w1 (SL.out.keep keepsItm M1.out)).mono ?_); rintro e w2 ⟨rfl, m2⟩; rw [H1.out]; have M2 := Lib.hid (M1.out.trans m2); clear m2)) | (go_at_call 61; ((with_reducible refine (large10 _ m w2 (SM.out.keep keepsItm M2.out)).mono ?_); rintro e w3 ⟨rfl, m3⟩; rw [H2.out]; have M3 := Lib.hid (M2.out.trans m3); clear m3)) | (go_at_call 62; ((with_reducible refine (ReadI_any b _ w3 (SB.out.keep M3.out) HBY.out (by omega)).mono ?_); rintro e w4 ⟨v4, rfl, s4, m4⟩; rw [HRE.out] at s4 ⊢; have S4 := Lib.hid s4; have M4 := Lib.hid (M3.out.trans m4); obtain ⟨o4, c4, rfl, _, he4, _⟩ := items s4; have HE4 := Lib.hid he4; clear m4 s4 he4)))
  obtain ⟨wo, rfl⟩ : ∃ wo : World, wo = w4 := ⟨_, rfl⟩
  go_loopw [44] (fun ix wr => ∃ j : Nat, j ≤ 0 ∧ ix = .int .i64 j ∧ More wo wr) (fun ix _ => 0 - (intOf ix).toNat)
  case atStart => exact ⟨0, by omega, rfl, More.refl _⟩
  case round =>
    obtain ⟨j, hj, rfl, hmr⟩ := hrel
    have HMR := Lib.hid hmr
    clear hmr
    obtain rfl : j = 0 := by omega
    have MW : Hid (More w wr) := Lib.hid (M4.out.trans HMR.out)
    have hX0 : X.length = 0 := by rw [HX.out]; rfl
    have hX0' : ((X.length : Int) == 0) = true := by rw [hX0]; rfl
    clear hX0
    go_wp2_with (first | (go_at_call 64; ((with_reducible refine (WriteI_any l _ wr (SL.out.keep keepsItm MW.out) (by have := NL.out.1; omega) NL.out.2).mono ?_); rintro e w7 ⟨v7, rfl, s7, m7⟩; rw [HWL.out] at s7 ⊢; have S7 := Lib.hid s7; obtain ⟨o7, c7, rfl, _⟩ := s7; have M7 := Lib.hid (MW.out.trans m7); clear m7)) | (go_at_call 64; ((with_reducible refine (WriteI_any m _ w7 (SM.out.keep keepsItm M7.out) (by have := NM.out.1; omega) NM.out.2).mono ?_); rintro e w8 ⟨v8, rfl, s8, m8⟩; rw [HWM.out] at s8 ⊢; have S8 := Lib.hid s8; have S7b := Lib.hid (S7.out.keep m8); have M8 := Lib.hid (M7.out.trans m8); clear m8 s8)))
    go_ret
    exact ⟨rfl, M8.out⟩
set_option maxHeartbeats 8000000 in
theorem CB_a1c2 (l m : List Itm) (b : List Int) (o1 o2 o3 : Option Addr) (c1 c2 c3 : Nat) (w : World) (SL : Hid (SlP 17 RItm w (.slice o1 l.length c1) l)) (SM : Hid (SlP 17 RItm w (.slice o2 m.length c2) m)) (SB : Hid (SlI .u8 w (.slice o3 b.length c3) b)) (HBY : Hid (Byt b)) (H1 : Hid (lrgI l = false)) (H2 : Hid (lrgI m = false)) (h3 : b.length ≤ 400) (KL : Hid (∀ z ∈ l, ItmOK z)) (KM : Hid (∀ z ∈ m, ItmOK z)) (RL : List Itm) (re : Int) (HRE : Hid (readI b = (RL, re))) (HRI : Hid (∀ x ∈ RL, rightI x = true ∧ ItmOK x ∧ ItmN x)) (X : List Int) (f : Int) (Y : List Int) (g : Int) (HWL : Hid (writeI l = (X, f))) (HWM : Hid (writeI m = (Y, g))) (hre : ¬ re = 0 ∧ RL = []) (hf : f = 0) (hl0 : 0 < l.length) (HBK : Hid (readI X = (l, 0))) (hX : X.length ≤ 200) (HXB : Hid (Byt X)) (hg : ¬ g = 0) :
    Calls Try.prog 13 #[.slice o1 l.length c1, .slice o2 m.length c2, .slice o3 b.length c3] w fun e w' => e = .returned (.bool true) ∧ More w w' := by
  have NL := Lib.hid (lrgI_small H1.out)
  have NM := Lib.hid (lrgI_small H2.out)
  have h3' : decide ((400 : Int) < (b.length : Int)) = false := decide_eq_false (by omega)
  obtain ⟨hre, rfl⟩ := hre
  have bre : (re != 0) = true := by simp [hre]
  subst hf
  have bl0 : ((l.length : Int) == 0) = false := by simp; intro e; rw [e] at hl0; exact absurd hl0 (by simp)
  have hX' : (X.length : Int) ≤ 200 := by omega
  have bg : (g != 0) = true := by simp [hg]
  clear hg
  go_enter Try.func13, Try.ntmps13
  go_wp2_with (first | (go_at_call 60; ((with_reducible refine (awake10 _).mono ?_); rintro e w1 ⟨rfl, m1⟩; have M1 := Lib.hid m1; clear m1)) | (go_at_call 61; ((with_reducible refine (large10 _ l w1 (SL.out.keep keepsItm M1.out)).mono ?_); rintro e w2 ⟨rfl, m2⟩; rw [H1.out]; have M2 := Lib.hid (M1.out.trans m2); clear m2)) | (go_at_call 61; ((with_reducible refine (large10 _ m w2 (SM.out.keep keepsItm M2.out)).mono ?_); rintro e w3 ⟨rfl, m3⟩; rw [H2.out]; have M3 := Lib.hid (M2.out.trans m3); clear m3)) | (go_at_call 62; ((with_reducible refine (ReadI_any b _ w3 (SB.out.keep M3.out) HBY.out (by omega)).mono ?_); rintro e w4 ⟨v4, rfl, s4, m4⟩; rw [HRE.out] at s4 ⊢; have S4 := Lib.hid s4; have M4 := Lib.hid (M3.out.trans m4); obtain ⟨o4, c4, rfl, _, he4, _⟩ := items s4; have HE4 := Lib.hid he4; clear m4 s4 he4)))
  obtain ⟨wo, rfl⟩ : ∃ wo : World, wo = w4 := ⟨_, rfl⟩
  go_loopw [44] (fun ix wr => ∃ j : Nat, j ≤ 0 ∧ ix = .int .i64 j ∧ More wo wr) (fun ix _ => 0 - (intOf ix).toNat)
  case atStart => exact ⟨0, by omega, rfl, More.refl _⟩
  case round =>
    obtain ⟨j, hj, rfl, hmr⟩ := hrel
    have HMR := Lib.hid hmr
    clear hmr
    obtain rfl : j = 0 := by omega
    have MW : Hid (More w wr) := Lib.hid (M4.out.trans HMR.out)
    go_wp2_with (first | (go_at_call 64; ((with_reducible refine (WriteI_any l _ wr (SL.out.keep keepsItm MW.out) (by have := NL.out.1; omega) NL.out.2).mono ?_); rintro e w7 ⟨v7, rfl, s7, m7⟩; rw [HWL.out] at s7 ⊢; have S7 := Lib.hid s7; obtain ⟨o7, c7, rfl, _⟩ := s7; have M7 := Lib.hid (MW.out.trans m7); clear m7)) | (go_at_call 64; ((with_reducible refine (WriteI_any m _ w7 (SM.out.keep keepsItm M7.out) (by have := NM.out.1; omega) NM.out.2).mono ?_); rintro e w8 ⟨v8, rfl, s8, m8⟩; rw [HWM.out] at s8 ⊢; have S8 := Lib.hid s8; have S7b := Lib.hid (S7.out.keep m8); have M8 := Lib.hid (M7.out.trans m8); clear m8 s8)) | (go_at_call 62; ((with_reducible refine (ReadI_any X _ w8 S7b.out HXB.out (by omega)).mono ?_); rintro e w9 ⟨v9, rfl, s9, m9⟩; rw [HBK.out] at s9 ⊢; have S9 := Lib.hid s9; have M9 := Lib.hid (M8.out.trans m9); have S7c := Lib.hid (S7b.out.keep m9); have S8b := Lib.hid (S8.out.keep m9); clear m9 s9)) | (go_at_call 66; ((with_reducible refine (own10 l v9 w9 S9.out (by have := NL.out.1; omega) NL.out.2).mono ?_); rintro e w10 ⟨v10, rfl, s10, m10⟩; have S10 := Lib.hid s10; have M10 := Lib.hid (M9.out.trans m10); have S7d := Lib.hid (S7c.out.keep m10); have S8d := Lib.hid (S8b.out.keep m10); clear m10 s10)) | (go_at_call 66; ((with_reducible refine (own10 l (.slice o1 l.length c1) w10 (SL.out.keep keepsItm M10.out) (by have := NL.out.1; omega) NL.out.2).mono ?_); rintro e w11 ⟨v11, rfl, s11, m11⟩; have S11 := Lib.hid s11; have S10b := Lib.hid (S10.out.keep keepsItm m11); have M11 := Lib.hid (M10.out.trans m11); have S7e := Lib.hid (S7d.out.keep m11); have S8e := Lib.hid (S8d.out.keep m11); clear m11 s11)) | (go_at_call 65; ((with_reducible refine (Same10_any l l v10 v11 w11 S10b.out S11.out).mono ?_); rintro e w12 ⟨rfl, m12⟩; rw [decide_eq_true rfl]; have M12 := Lib.hid (M11.out.trans m12); have S7f := Lib.hid (S7e.out.keep m12); have S8f := Lib.hid (S8e.out.keep m12); clear m12)))
    go_ret
    exact ⟨rfl, M12.out⟩
set_option maxHeartbeats 8000000 in
theorem CB_a1c3 (l m : List Itm) (b : List Int) (o1 o2 o3 : Option Addr) (c1 c2 c3 : Nat) (w : World) (SL : Hid (SlP 17 RItm w (.slice o1 l.length c1) l)) (SM : Hid (SlP 17 RItm w (.slice o2 m.length c2) m)) (SB : Hid (SlI .u8 w (.slice o3 b.length c3) b)) (HBY : Hid (Byt b)) (H1 : Hid (lrgI l = false)) (H2 : Hid (lrgI m = false)) (h3 : b.length ≤ 400) (KL : Hid (∀ z ∈ l, ItmOK z)) (KM : Hid (∀ z ∈ m, ItmOK z)) (RL : List Itm) (re : Int) (HRE : Hid (readI b = (RL, re))) (HRI : Hid (∀ x ∈ RL, rightI x = true ∧ ItmOK x ∧ ItmN x)) (X : List Int) (f : Int) (Y : List Int) (g : Int) (HWL : Hid (writeI l = (X, f))) (HWM : Hid (writeI m = (Y, g))) (hre : ¬ re = 0 ∧ RL = []) (hf : f = 0) (hl0 : 0 < l.length) (HBK : Hid (readI X = (l, 0))) (hX : X.length ≤ 200) (HXB : Hid (Byt X)) (hg : g = 0) (q : Bool) (HQ1 : Hid (decide (X = Y) = q)) (HQ2 : Hid (decide (l = m) = q)) :
    Calls Try.prog 13 #[.slice o1 l.length c1, .slice o2 m.length c2, .slice o3 b.length c3] w fun e w' => e = .returned (.bool true) ∧ More w w' := by
  have NL := Lib.hid (lrgI_small H1.out)
  have NM := Lib.hid (lrgI_small H2.out)
  have h3' : decide ((400 : Int) < (b.length : Int)) = false := decide_eq_false (by omega)
  obtain ⟨hre, rfl⟩ := hre
  have bre : (re != 0) = true := by simp [hre]
  subst hf
  have bl0 : ((l.length : Int) == 0) = false := by simp; intro e; rw [e] at hl0; exact absurd hl0 (by simp)
  have hX' : (X.length : Int) ≤ 200 := by omega
  subst hg
  go_enter Try.func13, Try.ntmps13
  go_wp2_with (first | (go_at_call 60; ((with_reducible refine (awake10 _).mono ?_); rintro e w1 ⟨rfl, m1⟩; have M1 := Lib.hid m1; clear m1)) | (go_at_call 61; ((with_reducible refine (large10 _ l w1 (SL.out.keep keepsItm M1.out)).mono ?_); rintro e w2 ⟨rfl, m2⟩; rw [H1.out]; have M2 := Lib.hid (M1.out.trans m2); clear m2)) | (go_at_call 61; ((with_reducible refine (large10 _ m w2 (SM.out.keep keepsItm M2.out)).mono ?_); rintro e w3 ⟨rfl, m3⟩; rw [H2.out]; have M3 := Lib.hid (M2.out.trans m3); clear m3)) | (go_at_call 62; ((with_reducible refine (ReadI_any b _ w3 (SB.out.keep M3.out) HBY.out (by omega)).mono ?_); rintro e w4 ⟨v4, rfl, s4, m4⟩; rw [HRE.out] at s4 ⊢; have S4 := Lib.hid s4; have M4 := Lib.hid (M3.out.trans m4); obtain ⟨o4, c4, rfl, _, he4, _⟩ := items s4; have HE4 := Lib.hid he4; clear m4 s4 he4)))
  obtain ⟨wo, rfl⟩ : ∃ wo : World, wo = w4 := ⟨_, rfl⟩
  go_loopw [44] (fun ix wr => ∃ j : Nat, j ≤ 0 ∧ ix = .int .i64 j ∧ More wo wr) (fun ix _ => 0 - (intOf ix).toNat)
  case atStart => exact ⟨0, by omega, rfl, More.refl _⟩
  case round =>
    obtain ⟨j, hj, rfl, hmr⟩ := hrel
    have HMR := Lib.hid hmr
    clear hmr
    obtain rfl : j = 0 := by omega
    have MW : Hid (More w wr) := Lib.hid (M4.out.trans HMR.out)
    go_wp2_with (first | (go_at_call 64; ((with_reducible refine (WriteI_any l _ wr (SL.out.keep keepsItm MW.out) (by have := NL.out.1; omega) NL.out.2).mono ?_); rintro e w7 ⟨v7, rfl, s7, m7⟩; rw [HWL.out] at s7 ⊢; have S7 := Lib.hid s7; obtain ⟨o7, c7, rfl, _⟩ := s7; have M7 := Lib.hid (MW.out.trans m7); clear m7)) | (go_at_call 64; ((with_reducible refine (WriteI_any m _ w7 (SM.out.keep keepsItm M7.out) (by have := NM.out.1; omega) NM.out.2).mono ?_); rintro e w8 ⟨v8, rfl, s8, m8⟩; rw [HWM.out] at s8 ⊢; have S8 := Lib.hid s8; have S7b := Lib.hid (S7.out.keep m8); have M8 := Lib.hid (M7.out.trans m8); clear m8 s8)) | (go_at_call 62; ((with_reducible refine (ReadI_any X _ w8 S7b.out HXB.out (by omega)).mono ?_); rintro e w9 ⟨v9, rfl, s9, m9⟩; rw [HBK.out] at s9 ⊢; have S9 := Lib.hid s9; have M9 := Lib.hid (M8.out.trans m9); have S7c := Lib.hid (S7b.out.keep m9); have S8b := Lib.hid (S8.out.keep m9); clear m9 s9)) | (go_at_call 66; ((with_reducible refine (own10 l v9 w9 S9.out (by have := NL.out.1; omega) NL.out.2).mono ?_); rintro e w10 ⟨v10, rfl, s10, m10⟩; have S10 := Lib.hid s10; have M10 := Lib.hid (M9.out.trans m10); have S7d := Lib.hid (S7c.out.keep m10); have S8d := Lib.hid (S8b.out.keep m10); clear m10 s10)) | (go_at_call 66; ((with_reducible refine (own10 l (.slice o1 l.length c1) w10 (SL.out.keep keepsItm M10.out) (by have := NL.out.1; omega) NL.out.2).mono ?_); rintro e w11 ⟨v11, rfl, s11, m11⟩; have S11 := Lib.hid s11; have S10b := Lib.hid (S10.out.keep keepsItm m11); have M11 := Lib.hid (M10.out.trans m11); have S7e := Lib.hid (S7d.out.keep m11); have S8e := Lib.hid (S8d.out.keep m11); clear m11 s11)) | (go_at_call 65; ((with_reducible refine (Same10_any l l v10 v11 w11 S10b.out S11.out).mono ?_); rintro e w12 ⟨rfl, m12⟩; rw [decide_eq_true rfl]; have M12 := Lib.hid (M11.out.trans m12); have S7f := Lib.hid (S7e.out.keep m12); have S8f := Lib.hid (S8e.out.keep m12); clear m12)) | (go_at_call 34; ((with_reducible refine (Same_any X Y _ _ w12 S7f.out S8f.out).mono ?_); rintro e w13 ⟨rfl, k13, e13⟩; rw [HQ1.out]; have M13 : Hid (More w w13) := Lib.hid (by rw [e13]; exact M12.out.dr _); clear e13)) | (go_at_call 66; ((with_reducible refine (own10 l (.slice o1 l.length c1) w13 (SL.out.keep keepsItm M13.out) (by have := NL.out.1; omega) NL.out.2).mono ?_); rintro e w14 ⟨v14, rfl, s14, m14⟩; have S14 := Lib.hid s14; have M14 := Lib.hid (M13.out.trans m14); clear m14 s14)) | (go_at_call 66; ((with_reducible refine (own10 m (.slice o2 m.length c2) w14 (SM.out.keep keepsItm M14.out) (by have := NM.out.1; omega) NM.out.2).mono ?_); rintro e w15 ⟨v15, rfl, s15, m15⟩; have S15 := Lib.hid s15; have S14b := Lib.hid (S14.out.keep keepsItm m15); have M15 := Lib.hid (M14.out.trans m15); clear m15 s15)) | (go_at_call 65; ((with_reducible refine (Same10_any l m v14 v15 w15 S14b.out S15.out).mono ?_); rintro e w16 ⟨rfl, m16⟩; rw [HQ2.out]; have M16 := Lib.hid (M15.out.trans m16); clear m16)))
    go_ret
    exact ⟨ret_bool (by cases q <;> rfl), M16.out⟩
theorem CompoundBack_law (v1 v2 v3 : Value) (l m : List Itm) (b : List Int) (w : World) (sl : SlP 17 RItm w v1 l) (sm : SlP 17 RItm w v2 m) (sb : SlI .u8 w v3 b) (hb : Byt b) :
    Calls Try.prog 13 #[v1, v2, v3] w fun e w' => e = .returned (.bool true) ∧ More w w' := by
  obtain ⟨o1, c1, rfl, _, _, kl⟩ := items sl
  obtain ⟨o2, c2, rfl, _, _, km⟩ := items sm
  have SB := Lib.hid sb
  obtain ⟨o3, c3, rfl, _⟩ := sb
  have SL := Lib.hid sl
  have SM := Lib.hid sm
  cases h1 : lrgI l with
  | true => exact CB_long l m b o1 o2 o3 c1 c2 c3 w SL SM (Or.inl h1)
  | false =>
    cases h2 : lrgI m with
    | true => exact CB_long l m b o1 o2 o3 c1 c2 c3 w SL SM (Or.inr (Or.inl ⟨h1, h2⟩))
    | false =>
      by_cases h3 : b.length ≤ 400
      · obtain ⟨RL, re, hre⟩ : ∃ RL re, readI b = (RL, re) := ⟨_, _, rfl⟩
        obtain ⟨X, f, hX⟩ : ∃ X f, writeI l = (X, f) := ⟨_, _, rfl⟩
        obtain ⟨Y, g, hY⟩ : ∃ Y g, writeI m = (Y, g) := ⟨_, _, rfl⟩
        have hri : ∀ x ∈ RL, rightI x = true ∧ ItmOK x ∧ ItmN x := by
          by_cases e : re = 0
          · have := readI_right hb (by rw [hre]; exact e)
            rw [hre] at this
            exact this
          · have := readI_err (b := b) (by rw [hre]; exact e)
            rw [hre] at this
            simp only at this
            rw [this]
            intro x hx
            cases hx
        have key : ∀ (P : Prop), (re = 0 → P) → ((¬ re = 0 ∧ RL = []) → P) → P := fun P p q => by
          by_cases e : re = 0
          · exact p e
          · have := readI_err (b := b) (by rw [hre]; exact e)
            rw [hre] at this
            exact q ⟨e, this⟩
        by_cases hf : f = 0
        · by_cases hl0 : l = []
          · have hx : X = [] := by
              rw [hl0, writeI_nil] at hX
              injection hX with e _
              exact e.symm
            exact key _ (fun e => CB_a0c1 l m b o1 o2 o3 c1 c2 c3 w SL SM SB (Lib.hid hb) (Lib.hid h1) (Lib.hid h2) h3 (Lib.hid kl) (Lib.hid km) RL re (Lib.hid hre) (Lib.hid hri) X f Y g (Lib.hid hX) (Lib.hid hY) e hf hl0 (Lib.hid hx)) (fun e => CB_a1c1 l m b o1 o2 o3 c1 c2 c3 w SL SM SB (Lib.hid hb) (Lib.hid h1) (Lib.hid h2) h3 (Lib.hid kl) (Lib.hid km) RL re (Lib.hid hre) (Lib.hid hri) X f Y g (Lib.hid hX) (Lib.hid hY) e hf hl0 (Lib.hid hx))
          · obtain ⟨hbk, hx⟩ := writeI_back kl (by rw [hX, hf]) hl0
            have hlp : 0 < l.length := List.length_pos_iff.2 hl0
            have hxb : Byt X := by
              have := (joinC_ok (writeI_ok (l := l) (x := X) (by rw [hX, hf])).2).1
              rw [this]
              exact flC_bytC fun c hc => by
                obtain ⟨y, hy, rfl⟩ := List.mem_map.1 hc
                exact chunkI_ok (kl y hy)
            by_cases hg : g = 0
            · have hq := writeI_inj kl km (by rw [hX, hf]) (by rw [hY, hg]) hl0
              exact key _ (fun e => CB_a0c3 l m b o1 o2 o3 c1 c2 c3 w SL SM SB (Lib.hid hb) (Lib.hid h1) (Lib.hid h2) h3 (Lib.hid kl) (Lib.hid km) RL re (Lib.hid hre) (Lib.hid hri) X f Y g (Lib.hid hX) (Lib.hid hY) e hf hlp (Lib.hid hbk) hx (Lib.hid hxb) hg _ (Lib.hid hq) (Lib.hid rfl)) (fun e => CB_a1c3 l m b o1 o2 o3 c1 c2 c3 w SL SM SB (Lib.hid hb) (Lib.hid h1) (Lib.hid h2) h3 (Lib.hid kl) (Lib.hid km) RL re (Lib.hid hre) (Lib.hid hri) X f Y g (Lib.hid hX) (Lib.hid hY) e hf hlp (Lib.hid hbk) hx (Lib.hid hxb) hg _ (Lib.hid hq) (Lib.hid rfl))
            · exact key _ (fun e => CB_a0c2 l m b o1 o2 o3 c1 c2 c3 w SL SM SB (Lib.hid hb) (Lib.hid h1) (Lib.hid h2) h3 (Lib.hid kl) (Lib.hid km) RL re (Lib.hid hre) (Lib.hid hri) X f Y g (Lib.hid hX) (Lib.hid hY) e hf hlp (Lib.hid hbk) hx (Lib.hid hxb) hg) (fun e => CB_a1c2 l m b o1 o2 o3 c1 c2 c3 w SL SM SB (Lib.hid hb) (Lib.hid h1) (Lib.hid h2) h3 (Lib.hid kl) (Lib.hid km) RL re (Lib.hid hre) (Lib.hid hri) X f Y g (Lib.hid hX) (Lib.hid hY) e hf hlp (Lib.hid hbk) hx (Lib.hid hxb) hg)
        · have hx : X = [] := by
            have := writeI_err (l := l) (by rw [hX]; exact hf)
            rw [hX] at this
            exact this
          exact key _ (fun e => CB_a0c0 l m b o1 o2 o3 c1 c2 c3 w SL SM SB (Lib.hid hb) (Lib.hid h1) (Lib.hid h2) h3 (Lib.hid kl) (Lib.hid km) RL re (Lib.hid hre) (Lib.hid hri) X f Y g (Lib.hid hX) (Lib.hid hY) e hf (Lib.hid hx)) (fun e => CB_a1c0 l m b o1 o2 o3 c1 c2 c3 w SL SM SB (Lib.hid hb) (Lib.hid h1) (Lib.hid h2) h3 (Lib.hid kl) (Lib.hid km) RL re (Lib.hid hre) (Lib.hid hri) X f Y g (Lib.hid hX) (Lib.hid hY) e hf (Lib.hid hx))
      · exact CB_long l m b o1 o2 o3 c1 c2 c3 w SL SM (Or.inr (Or.inr ⟨h1, h2, by omega⟩))
end Go.Proofs.Ytlnikmcimmnbmaa
