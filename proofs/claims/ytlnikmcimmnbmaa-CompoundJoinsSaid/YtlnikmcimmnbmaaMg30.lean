/- Merged from my texts CompB. -/
import Derived.Test.YtlnikmcimmnbmaaMg29
/- Package compound: whether an item may be; its chunk. -/
namespace Go.Proofs.Ytlnikmcimmnbmaa
set_option linter.unusedSimpArgs false
set_option linter.unusedVariables false
open Go.RowKit Go.Lib
set_option maxRecDepth 100000

/-- No more than is counted. -/
structure ItmN (x : Itm) : Prop where
  bl : x.rep.bl.length ≤ 100000
  asks : x.msg.asks.length ≤ 100000
  lost : x.msg.lost.length ≤ 100000
  oth : x.oth.2.2.1.length ≤ 1000000
theorem RightI_1 (x : Itm) (ob oc od oe : Option Addr) (cb cc cd ce : Nat) (w : World) (s : ItmS w (.slice ob x.rep.bl.length cb) (.slice oc x.msg.asks.length cc) (.slice od x.msg.lost.length cd) (.slice oe x.oth.2.2.1.length ce) x) (ok : ItmOK x) (hn : ItmN x) (hk : x.kind = 1) :
    Calls Try.prog 63 #[.agg #[.int .i64 x.kind, .bool x.rep.snd, .int .u32 x.rep.src, .int .u32 x.rep.inf.sec, .int .u32 x.rep.inf.frac, .int .u32 x.rep.inf.stamp, .int .u32 x.rep.inf.pkts, .int .u32 x.rep.inf.octs, .slice ob x.rep.bl.length cb, .int .i64 x.msg.kind, .int .u32 x.msg.snd, .int .u32 x.msg.med, .slice oc x.msg.asks.length cc, .slice od x.msg.lost.length cd, .int .u8 x.oth.1, .int .u8 x.oth.2.1, .slice oe x.oth.2.2.1.length ce]] w fun e w' => e = .returned (.bool (rightI x)) ∧ More w w' := by
  have S := Lib.hid s
  have HK := Lib.hid ok
  obtain ⟨hb1, ha1, hl1, ho1⟩ := hn
  clear s ok
  have b1 : (x.kind == 1) = true := by rw [hk]; rfl
  have b2 : (x.kind == 2) = false := by rw [hk]; rfl
  have b3 : (x.kind == 3) = false := by rw [hk]; rfl
  have HD0 : Hid (rightI x = (decide (x.msg = msg0) && (decide (x.oth = oth0) && rightR x.rep))) := Lib.hid (by unfold rightI; rw [if_pos hk])
  clear hk
  cases h1 : decide (x.msg = msg0) with
  | false =>
    have H1 := Lib.hid h1
    have HD := Lib.hid (show rightI x = false by rw [HD0.out, h1]; rfl)
    clear h1 HD0
    go_enter Try.func63, Try.ntmps63
    go_wp2_with (first | (go_at_call 126; ((with_reducible refine (NoMsg_any x.msg oc od cc cd _).mono ?_); rintro e w1 ⟨rfl, m⟩; rw [H1.out]; have M1 := Lib.hid ((More.alloc w _).trans m); have X1 := Lib.hid (blk_more m (blk_new w _)); obtain ⟨⟨k0, k1, k2, k3, k4, k5, k6, k7, k8⟩, ⟨k9, k10, k11, k12, k13⟩, k14, k15, k16⟩ := cells17 X1.out; clear m)))
    go_ret
    exact ⟨by rw [HD.out]; rfl, M1.out⟩
  | true =>
    have H1 := Lib.hid h1
    cases h2 : decide (x.oth = oth0) with
    | false =>
      have H2 := Lib.hid h2
      have HD := Lib.hid (show rightI x = false by rw [HD0.out, h1, h2]; rfl)
      clear h1 h2 HD0
      go_enter Try.func63, Try.ntmps63
      go_wp2_with (first | (go_at_call 126; ((with_reducible refine (NoMsg_any x.msg oc od cc cd _).mono ?_); rintro e w1 ⟨rfl, m⟩; rw [H1.out]; have M1 := Lib.hid ((More.alloc w _).trans m); have X1 := Lib.hid (blk_more m (blk_new w _)); obtain ⟨⟨k0, k1, k2, k3, k4, k5, k6, k7, k8⟩, ⟨k9, k10, k11, k12, k13⟩, k14, k15, k16⟩ := cells17 X1.out; clear m)) | (go_at_call 127; ((with_reducible refine (NoOth_any x.oth oe ce _).mono ?_); rintro e w2 ⟨rfl, m⟩; rw [H2.out]; have M2 := Lib.hid (M1.out.trans m); have X2 := Lib.hid (blk_more m X1.out); obtain ⟨⟨k0, k1, k2, k3, k4, k5, k6, k7, k8⟩, ⟨k9, k10, k11, k12, k13⟩, k14, k15, k16⟩ := cells17 X2.out; clear m)))
      go_ret
      exact ⟨by rw [HD.out]; rfl, M2.out⟩
    | true =>
      have H2 := Lib.hid h2
      have HD := Lib.hid (show rightI x = rightR x.rep by rw [HD0.out, h1, h2]; rfl)
      clear h1 h2 HD0
      go_enter Try.func63, Try.ntmps63
      go_wp2_with (first | (go_at_call 126; ((with_reducible refine (NoMsg_any x.msg oc od cc cd _).mono ?_); rintro e w1 ⟨rfl, m⟩; rw [H1.out]; have M1 := Lib.hid ((More.alloc w _).trans m); have X1 := Lib.hid (blk_more m (blk_new w _)); obtain ⟨⟨k0, k1, k2, k3, k4, k5, k6, k7, k8⟩, ⟨k9, k10, k11, k12, k13⟩, k14, k15, k16⟩ := cells17 X1.out; clear m)) | (go_at_call 127; ((with_reducible refine (NoOth_any x.oth oe ce _).mono ?_); rintro e w2 ⟨rfl, m⟩; rw [H2.out]; have M2 := Lib.hid (M1.out.trans m); have X2 := Lib.hid (blk_more m X1.out); obtain ⟨⟨k0, k1, k2, k3, k4, k5, k6, k7, k8⟩, ⟨k9, k10, k11, k12, k13⟩, k14, k15, k16⟩ := cells17 X2.out; clear m)) | (go_at_call 21; ((with_reducible refine (Right08_any x.rep (S.out.bl.keep keepsBlk M2.out)).mono ?_); rintro e w3 ⟨rfl, m⟩; have M3 := Lib.hid (M2.out.trans m); clear m)))
      go_ret
      exact ⟨by rw [HD.out]; rfl, M3.out⟩
theorem RightI_2 (x : Itm) (ob oc od oe : Option Addr) (cb cc cd ce : Nat) (w : World) (s : ItmS w (.slice ob x.rep.bl.length cb) (.slice oc x.msg.asks.length cc) (.slice od x.msg.lost.length cd) (.slice oe x.oth.2.2.1.length ce) x) (ok : ItmOK x) (hn : ItmN x) (hk : x.kind = 2) :
    Calls Try.prog 63 #[.agg #[.int .i64 x.kind, .bool x.rep.snd, .int .u32 x.rep.src, .int .u32 x.rep.inf.sec, .int .u32 x.rep.inf.frac, .int .u32 x.rep.inf.stamp, .int .u32 x.rep.inf.pkts, .int .u32 x.rep.inf.octs, .slice ob x.rep.bl.length cb, .int .i64 x.msg.kind, .int .u32 x.msg.snd, .int .u32 x.msg.med, .slice oc x.msg.asks.length cc, .slice od x.msg.lost.length cd, .int .u8 x.oth.1, .int .u8 x.oth.2.1, .slice oe x.oth.2.2.1.length ce]] w fun e w' => e = .returned (.bool (rightI x)) ∧ More w w' := by
  have S := Lib.hid s
  have HK := Lib.hid ok
  obtain ⟨hb1, ha1, hl1, ho1⟩ := hn
  clear s ok
  have b1 : (x.kind == 1) = false := by rw [hk]; rfl
  have b2 : (x.kind == 2) = true := by rw [hk]; rfl
  have b3 : (x.kind == 3) = false := by rw [hk]; rfl
  have HD0 : Hid (rightI x = (decide (x.rep = rep0) && (decide (x.oth = oth0) && rightM x.msg))) := Lib.hid (by unfold rightI; rw [if_neg (by rw [hk]; decide), if_pos hk])
  clear hk
  cases h1 : decide (x.rep = rep0) with
  | false =>
    have H1 := Lib.hid h1
    have HD := Lib.hid (show rightI x = false by rw [HD0.out, h1]; rfl)
    clear h1 HD0
    go_enter Try.func63, Try.ntmps63
    go_wp2_with (first | (go_at_call 128; ((with_reducible refine (NoRep_any x.rep ob cb _).mono ?_); rintro e w1 ⟨rfl, m⟩; rw [H1.out]; have M1 := Lib.hid ((More.alloc w _).trans m); have X1 := Lib.hid (blk_more m (blk_new w _)); obtain ⟨⟨k0, k1, k2, k3, k4, k5, k6, k7, k8⟩, ⟨k9, k10, k11, k12, k13⟩, k14, k15, k16⟩ := cells17 X1.out; clear m)))
    go_ret
    exact ⟨by rw [HD.out]; rfl, M1.out⟩
  | true =>
    have H1 := Lib.hid h1
    cases h2 : decide (x.oth = oth0) with
    | false =>
      have H2 := Lib.hid h2
      have HD := Lib.hid (show rightI x = false by rw [HD0.out, h1, h2]; rfl)
      clear h1 h2 HD0
      go_enter Try.func63, Try.ntmps63
      go_wp2_with (first | (go_at_call 128; ((with_reducible refine (NoRep_any x.rep ob cb _).mono ?_); rintro e w1 ⟨rfl, m⟩; rw [H1.out]; have M1 := Lib.hid ((More.alloc w _).trans m); have X1 := Lib.hid (blk_more m (blk_new w _)); obtain ⟨⟨k0, k1, k2, k3, k4, k5, k6, k7, k8⟩, ⟨k9, k10, k11, k12, k13⟩, k14, k15, k16⟩ := cells17 X1.out; clear m)) | (go_at_call 127; ((with_reducible refine (NoOth_any x.oth oe ce _).mono ?_); rintro e w2 ⟨rfl, m⟩; rw [H2.out]; have M2 := Lib.hid (M1.out.trans m); have X2 := Lib.hid (blk_more m X1.out); obtain ⟨⟨k0, k1, k2, k3, k4, k5, k6, k7, k8⟩, ⟨k9, k10, k11, k12, k13⟩, k14, k15, k16⟩ := cells17 X2.out; clear m)))
      go_ret
      exact ⟨by rw [HD.out]; rfl, M2.out⟩
    | true =>
      have H2 := Lib.hid h2
      have HD := Lib.hid (show rightI x = rightM x.msg by rw [HD0.out, h1, h2]; rfl)
      clear h1 h2 HD0
      go_enter Try.func63, Try.ntmps63
      go_wp2_with (first | (go_at_call 128; ((with_reducible refine (NoRep_any x.rep ob cb _).mono ?_); rintro e w1 ⟨rfl, m⟩; rw [H1.out]; have M1 := Lib.hid ((More.alloc w _).trans m); have X1 := Lib.hid (blk_more m (blk_new w _)); obtain ⟨⟨k0, k1, k2, k3, k4, k5, k6, k7, k8⟩, ⟨k9, k10, k11, k12, k13⟩, k14, k15, k16⟩ := cells17 X1.out; clear m)) | (go_at_call 127; ((with_reducible refine (NoOth_any x.oth oe ce _).mono ?_); rintro e w2 ⟨rfl, m⟩; rw [H2.out]; have M2 := Lib.hid (M1.out.trans m); have X2 := Lib.hid (blk_more m X1.out); obtain ⟨⟨k0, k1, k2, k3, k4, k5, k6, k7, k8⟩, ⟨k9, k10, k11, k12, k13⟩, k14, k15, k16⟩ := cells17 X2.out; clear m)) | (go_at_call 45; ((with_reducible refine (Right09_any x.msg _ _ _ (S.out.ms.keep M2.out) HK.out.msg hl1).mono ?_); rintro e w3 ⟨rfl, m⟩; have M3 := Lib.hid (M2.out.trans m); clear m)))
      go_ret
      exact ⟨by rw [HD.out]; rfl, M3.out⟩
theorem RightI_3 (x : Itm) (ob oc od oe : Option Addr) (cb cc cd ce : Nat) (w : World) (s : ItmS w (.slice ob x.rep.bl.length cb) (.slice oc x.msg.asks.length cc) (.slice od x.msg.lost.length cd) (.slice oe x.oth.2.2.1.length ce) x) (ok : ItmOK x) (hn : ItmN x) (hk : x.kind = 3) :
    Calls Try.prog 63 #[.agg #[.int .i64 x.kind, .bool x.rep.snd, .int .u32 x.rep.src, .int .u32 x.rep.inf.sec, .int .u32 x.rep.inf.frac, .int .u32 x.rep.inf.stamp, .int .u32 x.rep.inf.pkts, .int .u32 x.rep.inf.octs, .slice ob x.rep.bl.length cb, .int .i64 x.msg.kind, .int .u32 x.msg.snd, .int .u32 x.msg.med, .slice oc x.msg.asks.length cc, .slice od x.msg.lost.length cd, .int .u8 x.oth.1, .int .u8 x.oth.2.1, .slice oe x.oth.2.2.1.length ce]] w fun e w' => e = .returned (.bool (rightI x)) ∧ More w w' := by
  have S := Lib.hid s
  have HK := Lib.hid ok
  obtain ⟨hb1, ha1, hl1, ho1⟩ := hn
  clear s ok
  have b1 : (x.kind == 1) = false := by rw [hk]; rfl
  have b2 : (x.kind == 2) = false := by rw [hk]; rfl
  have b3 : (x.kind == 3) = true := by rw [hk]; rfl
  have HD0 : Hid (rightI x = (decide (x.rep = rep0) && (decide (x.msg = msg0) && (rightB x.oth && strangeC x.oth)))) := Lib.hid (by unfold rightI; rw [if_neg (by rw [hk]; decide), if_neg (by rw [hk]; decide), if_pos hk])
  clear hk
  cases h1 : decide (x.rep = rep0) with
  | false =>
    have H1 := Lib.hid h1
    have HD := Lib.hid (show rightI x = false by rw [HD0.out, h1]; rfl)
    clear h1 HD0
    go_enter Try.func63, Try.ntmps63
    go_wp2_with (first | (go_at_call 128; ((with_reducible refine (NoRep_any x.rep ob cb _).mono ?_); rintro e w1 ⟨rfl, m⟩; rw [H1.out]; have M1 := Lib.hid ((More.alloc w _).trans m); have X1 := Lib.hid (blk_more m (blk_new w _)); obtain ⟨⟨k0, k1, k2, k3, k4, k5, k6, k7, k8⟩, ⟨k9, k10, k11, k12, k13⟩, k14, k15, k16⟩ := cells17 X1.out; clear m)))
    go_ret
    exact ⟨by rw [HD.out]; rfl, M1.out⟩
  | true =>
    have H1 := Lib.hid h1
    cases h2 : decide (x.msg = msg0) with
    | false =>
      have H2 := Lib.hid h2
      have HD := Lib.hid (show rightI x = false by rw [HD0.out, h1, h2]; rfl)
      clear h1 h2 HD0
      go_enter Try.func63, Try.ntmps63
      go_wp2_with (first | (go_at_call 128; ((with_reducible refine (NoRep_any x.rep ob cb _).mono ?_); rintro e w1 ⟨rfl, m⟩; rw [H1.out]; have M1 := Lib.hid ((More.alloc w _).trans m); have X1 := Lib.hid (blk_more m (blk_new w _)); obtain ⟨⟨k0, k1, k2, k3, k4, k5, k6, k7, k8⟩, ⟨k9, k10, k11, k12, k13⟩, k14, k15, k16⟩ := cells17 X1.out; clear m)) | (go_at_call 126; ((with_reducible refine (NoMsg_any x.msg oc od cc cd _).mono ?_); rintro e w2 ⟨rfl, m⟩; rw [H2.out]; have M2 := Lib.hid (M1.out.trans m); have X2 := Lib.hid (blk_more m X1.out); obtain ⟨⟨k0, k1, k2, k3, k4, k5, k6, k7, k8⟩, ⟨k9, k10, k11, k12, k13⟩, k14, k15, k16⟩ := cells17 X2.out; clear m)))
      go_ret
      exact ⟨by rw [HD.out]; rfl, M2.out⟩
    | true =>
      have H2 := Lib.hid h2
      cases h3 : rightB x.oth with
      | false =>
        have H3 := Lib.hid h3
        have HD := Lib.hid (show rightI x = false by rw [HD0.out, h1, h2, h3]; rfl)
        clear h1 h2 h3 HD0
        go_enter Try.func63, Try.ntmps63
        go_wp2_with (first | (go_at_call 128; ((with_reducible refine (NoRep_any x.rep ob cb _).mono ?_); rintro e w1 ⟨rfl, m⟩; rw [H1.out]; have M1 := Lib.hid ((More.alloc w _).trans m); have X1 := Lib.hid (blk_more m (blk_new w _)); obtain ⟨⟨k0, k1, k2, k3, k4, k5, k6, k7, k8⟩, ⟨k9, k10, k11, k12, k13⟩, k14, k15, k16⟩ := cells17 X1.out; clear m)) | (go_at_call 126; ((with_reducible refine (NoMsg_any x.msg oc od cc cd _).mono ?_); rintro e w2 ⟨rfl, m⟩; rw [H2.out]; have M2 := Lib.hid (M1.out.trans m); have X2 := Lib.hid (blk_more m X1.out); obtain ⟨⟨k0, k1, k2, k3, k4, k5, k6, k7, k8⟩, ⟨k9, k10, k11, k12, k13⟩, k14, k15, k16⟩ := cells17 X2.out; clear m)) | (go_at_call 49; ((with_reducible refine (Right07_any x.oth (S.out.bo.keep M2.out) ho1).mono ?_); rintro e w3 ⟨rfl, m⟩; rw [H3.out]; have M3 := Lib.hid (M2.out.trans m); have X3 := Lib.hid (blk_more m X2.out); obtain ⟨⟨k0, k1, k2, k3, k4, k5, k6, k7, k8⟩, ⟨k9, k10, k11, k12, k13⟩, k14, k15, k16⟩ := cells17 X3.out; clear m)))
        go_ret
        exact ⟨by rw [HD.out]; rfl, M3.out⟩
      | true =>
        have H3 := Lib.hid h3
        have HD := Lib.hid (show rightI x = strangeC x.oth by rw [HD0.out, h1, h2, h3]; rfl)
        clear h1 h2 h3 HD0
        go_enter Try.func63, Try.ntmps63
        go_wp2_with (first | (go_at_call 128; ((with_reducible refine (NoRep_any x.rep ob cb _).mono ?_); rintro e w1 ⟨rfl, m⟩; rw [H1.out]; have M1 := Lib.hid ((More.alloc w _).trans m); have X1 := Lib.hid (blk_more m (blk_new w _)); obtain ⟨⟨k0, k1, k2, k3, k4, k5, k6, k7, k8⟩, ⟨k9, k10, k11, k12, k13⟩, k14, k15, k16⟩ := cells17 X1.out; clear m)) | (go_at_call 126; ((with_reducible refine (NoMsg_any x.msg oc od cc cd _).mono ?_); rintro e w2 ⟨rfl, m⟩; rw [H2.out]; have M2 := Lib.hid (M1.out.trans m); have X2 := Lib.hid (blk_more m X1.out); obtain ⟨⟨k0, k1, k2, k3, k4, k5, k6, k7, k8⟩, ⟨k9, k10, k11, k12, k13⟩, k14, k15, k16⟩ := cells17 X2.out; clear m)) | (go_at_call 49; ((with_reducible refine (Right07_any x.oth (S.out.bo.keep M2.out) ho1).mono ?_); rintro e w3 ⟨rfl, m⟩; rw [H3.out]; have M3 := Lib.hid (M2.out.trans m); have X3 := Lib.hid (blk_more m X2.out); obtain ⟨⟨k0, k1, k2, k3, k4, k5, k6, k7, k8⟩, ⟨k9, k10, k11, k12, k13⟩, k14, k15, k16⟩ := cells17 X3.out; clear m)) | (go_at_call 129; ((with_reducible refine (Strange_any x.oth _ _ (S.out.bo.keep M3.out) HK.out.oth ho1).mono ?_); rintro e w4 ⟨rfl, m⟩; have M4 := Lib.hid (M3.out.trans m); clear m)))
        go_ret
        exact ⟨by rw [HD.out]; rfl, M4.out⟩
theorem RightI_0 (x : Itm) (ob oc od oe : Option Addr) (cb cc cd ce : Nat) (w : World) (s : ItmS w (.slice ob x.rep.bl.length cb) (.slice oc x.msg.asks.length cc) (.slice od x.msg.lost.length cd) (.slice oe x.oth.2.2.1.length ce) x) (ok : ItmOK x) (hn : ItmN x) (hk : ¬ x.kind = 1 ∧ ¬ x.kind = 2 ∧ ¬ x.kind = 3) :
    Calls Try.prog 63 #[.agg #[.int .i64 x.kind, .bool x.rep.snd, .int .u32 x.rep.src, .int .u32 x.rep.inf.sec, .int .u32 x.rep.inf.frac, .int .u32 x.rep.inf.stamp, .int .u32 x.rep.inf.pkts, .int .u32 x.rep.inf.octs, .slice ob x.rep.bl.length cb, .int .i64 x.msg.kind, .int .u32 x.msg.snd, .int .u32 x.msg.med, .slice oc x.msg.asks.length cc, .slice od x.msg.lost.length cd, .int .u8 x.oth.1, .int .u8 x.oth.2.1, .slice oe x.oth.2.2.1.length ce]] w fun e w' => e = .returned (.bool (rightI x)) ∧ More w w' := by
  have S := Lib.hid s
  have HK := Lib.hid ok
  obtain ⟨hb1, ha1, hl1, ho1⟩ := hn
  clear s ok
  obtain ⟨h1, h2, h3⟩ := hk
  have b1 : (x.kind == 1) = false := beq_eq_false_iff_ne.2 h1
  have b2 : (x.kind == 2) = false := beq_eq_false_iff_ne.2 h2
  have b3 : (x.kind == 3) = false := beq_eq_false_iff_ne.2 h3
  have HD := Lib.hid (show rightI x = false by unfold rightI; rw [if_neg h1, if_neg h2, if_neg h3])
  clear h1 h2 h3
  go_enter Try.func63, Try.ntmps63
  go_wp2
  go_ret
  exact ⟨by rw [HD.out]; rfl, More.alloc _ _⟩
theorem RightI_any (x : Itm) (ob oc od oe : Option Addr) (cb cc cd ce : Nat) (w : World) (s : ItmS w (.slice ob x.rep.bl.length cb) (.slice oc x.msg.asks.length cc) (.slice od x.msg.lost.length cd) (.slice oe x.oth.2.2.1.length ce) x) (ok : ItmOK x) (hn : ItmN x) :
    Calls Try.prog 63 #[.agg #[.int .i64 x.kind, .bool x.rep.snd, .int .u32 x.rep.src, .int .u32 x.rep.inf.sec, .int .u32 x.rep.inf.frac, .int .u32 x.rep.inf.stamp, .int .u32 x.rep.inf.pkts, .int .u32 x.rep.inf.octs, .slice ob x.rep.bl.length cb, .int .i64 x.msg.kind, .int .u32 x.msg.snd, .int .u32 x.msg.med, .slice oc x.msg.asks.length cc, .slice od x.msg.lost.length cd, .int .u8 x.oth.1, .int .u8 x.oth.2.1, .slice oe x.oth.2.2.1.length ce]] w fun e w' => e = .returned (.bool (rightI x)) ∧ More w w' := by
  by_cases h1 : x.kind = 1
  · exact RightI_1 x ob oc od oe cb cc cd ce w s ok hn h1
  · by_cases h2 : x.kind = 2
    · exact RightI_2 x ob oc od oe cb cc cd ce w s ok hn h2
    · by_cases h3 : x.kind = 3
      · exact RightI_3 x ob oc od oe cb cc cd ce w s ok hn h3
      · exact RightI_0 x ob oc od oe cb cc cd ce w s ok hn ⟨h1, h2, h3⟩
end Go.Proofs.Ytlnikmcimmnbmaa
