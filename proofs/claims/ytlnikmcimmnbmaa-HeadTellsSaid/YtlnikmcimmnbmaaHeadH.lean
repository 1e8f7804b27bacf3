/- Packets: HeadCuts, walked. -/
import Derived.Test.YtlnikmcimmnbmaaHeadG
namespace Go.Proofs.Ytlnikmcimmnbmaa
set_option linter.unusedSimpArgs false
set_option linter.unusedVariables false
open Go.RowKit
set_option maxRecDepth 100000

theorem byt_bysA (n s : Int) : Byt (bysA n s) := by
  unfold bysA
  split
  · exact Byt_bys _ _
  · exact byt_nil
theorem ssB_byt (l : List Int) : Byt (ssB l) := by
  induction l with
  | nil => exact byt_nil
  | cons x l ih => exact byt_app (byt_bysA _ _) ih
theorem preB_byt {p : Pk} (h : PkOK p) : Byt (preB p) := by
  unfold preB fixB extB
  refine byt_app (byt_app (byt_app (byt_app (byt_app (byt_app ?_ ?_) ?_) ?_) ?_) (ssB_byt _)) ?_
  all_goals try exact byt_bysA _ _
  split
  · exact byt_app (byt_app (byt_bysA _ _) (byt_bysA _ _)) h.ex
  · exact byt_nil
theorem pkB_byt {p : Pk} (h : PkOK p) : Byt (pkB p) := byt_app (preB_byt h) h.pl
theorem byt_len {p : Pk} (hr : rightH p = true) : ((pkB p).length : Int) ≤ 200 := by rw [pkB_len]; exact ((rightH_iff p).1 hr).2.2.2.2
abbrev pkZ : Pk := ⟨false, 0, 0, 0, 0, [], false, 0, [], []⟩
set_option maxHeartbeats 4000000 in
theorem HeadCuts_large (p : Pk) (os oe op : Option Addr) (ks ke kp : Nat) (cut : Int) (w : World) (h : PkS w (.slice os p.ss.length ks) (.slice oe p.ex.length ke) (.slice op p.pl.length kp) p) (hc : 0 ≤ cut ∧ cut ≤ 255) (hl : lrgH p = true) :
    Calls Try.prog 5 #[.agg #[.bool p.mr, .int .u8 p.ty, .int .u16 p.sq, .int .u32 p.st, .int .u32 p.sc, .slice os p.ss.length ks, .bool p.has, .int .u16 p.pr, .slice oe p.ex.length ke, .slice op p.pl.length kp], .int .u8 cut] w fun e w' => e = .returned (.bool true) ∧ More w w' := by
  have HS := Lib.hid h
  have M0 := Lib.hid (More.alloc w (.cells #[.bool p.mr, .int .u8 p.ty, .int .u16 p.sq, .int .u32 p.st, .int .u32 p.sc, .slice os p.ss.length ks, .bool p.has, .int .u16 p.pr, .slice oe p.ex.length ke, .slice op p.pl.length kp] 57))
  have B0 := Lib.hid (blk_new w (.cells #[.bool p.mr, .int .u8 p.ty, .int .u16 p.sq, .int .u32 p.st, .int .u32 p.sc, .slice os p.ss.length ks, .bool p.has, .int .u16 p.pr, .slice oe p.ex.length ke, .slice op p.pl.length kp] 57))
  have HL := Lib.hid hl
  clear h hl
  go_enter Try.func5, Try.ntmps5
  go_wp2_with (first | (go_at_call 25; ((with_reducible refine (awake04 _).mono ?_); rintro e w1 ⟨rfl, m1⟩; have M1 := Lib.hid (M0.out.trans m1); have B1 := Lib.hid (blk_more m1 B0.out); clear m1; obtain ⟨x0, x1, x2, x3, x4, x5, x6, x7, x8, x9⟩ := blk10 B1.out)) | (go_at_call 26; ((with_reducible refine (large04d p _ _ _ _ (HS.out.keep M1.out)).mono ?_); rintro e w2 ⟨rfl, m2⟩; rw [HL.out]; have M2 := Lib.hid (M1.out.trans m2); have B2 := Lib.hid (blk_more m2 B1.out); clear m2 x0 x1 x2 x3 x4 x5 x6 x7 x8 x9; obtain ⟨y0, y1, y2, y3, y4, y5, y6, y7, y8, y9⟩ := blk10 B2.out)))
  go_ret
  exact ⟨rfl, M2.out⟩
set_option maxHeartbeats 4000000 in
theorem HeadCuts_no (p : Pk) (os oe op : Option Addr) (ks ke kp : Nat) (cut : Int) (w : World) (h : PkS w (.slice os p.ss.length ks) (.slice oe p.ex.length ke) (.slice op p.pl.length kp) p) (hc : 0 ≤ cut ∧ cut ≤ 255) (hl : lrgH p = false) (hr : rightH p = false) :
    Calls Try.prog 5 #[.agg #[.bool p.mr, .int .u8 p.ty, .int .u16 p.sq, .int .u32 p.st, .int .u32 p.sc, .slice os p.ss.length ks, .bool p.has, .int .u16 p.pr, .slice oe p.ex.length ke, .slice op p.pl.length kp], .int .u8 cut] w fun e w' => e = .returned (.bool true) ∧ More w w' := by
  have HS := Lib.hid h
  have M0 := Lib.hid (More.alloc w (.cells #[.bool p.mr, .int .u8 p.ty, .int .u16 p.sq, .int .u32 p.st, .int .u32 p.sc, .slice os p.ss.length ks, .bool p.has, .int .u16 p.pr, .slice oe p.ex.length ke, .slice op p.pl.length kp] 57))
  have B0 := Lib.hid (blk_new w (.cells #[.bool p.mr, .int .u8 p.ty, .int .u16 p.sq, .int .u32 p.st, .int .u32 p.sc, .slice os p.ss.length ks, .bool p.has, .int .u16 p.pr, .slice oe p.ex.length ke, .slice op p.pl.length kp] 57))
  have HL := Lib.hid hl
  have HR := Lib.hid hr
  have HSM := Lib.hid (lrgH_no hl).1
  clear h hl hr
  go_enter Try.func5, Try.ntmps5
  go_wp2_with (first | (go_at_call 25; ((with_reducible refine (awake04 _).mono ?_); rintro e w1 ⟨rfl, m1⟩; have M1 := Lib.hid (M0.out.trans m1); have B1 := Lib.hid (blk_more m1 B0.out); clear m1; obtain ⟨x0, x1, x2, x3, x4, x5, x6, x7, x8, x9⟩ := blk10 B1.out)) | (go_at_call 26; ((with_reducible refine (large04d p _ _ _ _ (HS.out.keep M1.out)).mono ?_); rintro e w2 ⟨rfl, m2⟩; rw [HL.out]; have M2 := Lib.hid (M1.out.trans m2); have B2 := Lib.hid (blk_more m2 B1.out); clear m2 x0 x1 x2 x3 x4 x5 x6 x7 x8 x9; obtain ⟨y0, y1, y2, y3, y4, y5, y6, y7, y8, y9⟩ := blk10 B2.out)) | (go_at_call 27; ((with_reducible refine (BytesH_no p _ _ _ _ (HS.out.keep M2.out) HSM.out HR.out).mono ?_); rintro e w3 ⟨rfl, m3⟩; have M3 := Lib.hid (M2.out.trans m3); clear m3)))
  go_ret
  exact ⟨rfl, M3.out⟩
set_option maxHeartbeats 4000000 in
theorem HeadCuts_over (p : Pk) (os oe op : Option Addr) (ks ke kp : Nat) (m : Nat) (w : World) (h : PkS w (.slice os p.ss.length ks) (.slice oe p.ex.length ke) (.slice op p.pl.length kp) p) (hk : PkOK p) (hc : m ≤ 255) (hl : lrgH p = false) (hr : rightH p = true) (N : Nat) (hN : (pkB p).length = N) (hm : N < m) :
    Calls Try.prog 5 #[.agg #[.bool p.mr, .int .u8 p.ty, .int .u16 p.sq, .int .u32 p.st, .int .u32 p.sc, .slice os p.ss.length ks, .bool p.has, .int .u16 p.pr, .slice oe p.ex.length ke, .slice op p.pl.length kp], .int .u8 m] w fun e w' => e = .returned (.bool true) ∧ More w w' := by
  have HS := Lib.hid h
  have HK := Lib.hid hk
  have M0 := Lib.hid (More.alloc w (.cells #[.bool p.mr, .int .u8 p.ty, .int .u16 p.sq, .int .u32 p.st, .int .u32 p.sc, .slice os p.ss.length ks, .bool p.has, .int .u16 p.pr, .slice oe p.ex.length ke, .slice op p.pl.length kp] 57))
  have B0 := Lib.hid (blk_new w (.cells #[.bool p.mr, .int .u8 p.ty, .int .u16 p.sq, .int .u32 p.st, .int .u32 p.sc, .slice os p.ss.length ks, .bool p.has, .int .u16 p.pr, .slice oe p.ex.length ke, .slice op p.pl.length kp] 57))
  have HL := Lib.hid hl
  have HR := Lib.hid hr
  have HN := Lib.hid hN
  have hmn : (N : Int) < (m : Int) := by omega
  have hw : IntKind.i64.wrap (m : Int) = (m : Int) := IntWalk.i64_in _ (by omega)
  clear h hk hl hr hN
  go_enter Try.func5, Try.ntmps5
  go_wp2_with (first | (go_at_call 25; ((with_reducible refine (awake04 _).mono ?_); rintro e w1 ⟨rfl, m1⟩; have M1 := Lib.hid (M0.out.trans m1); have B1 := Lib.hid (blk_more m1 B0.out); clear m1; obtain ⟨x0, x1, x2, x3, x4, x5, x6, x7, x8, x9⟩ := blk10 B1.out)) | (go_at_call 26; ((with_reducible refine (large04d p _ _ _ _ (HS.out.keep M1.out)).mono ?_); rintro e w2 ⟨rfl, m2⟩; rw [HL.out]; have M2 := Lib.hid (M1.out.trans m2); have B2 := Lib.hid (blk_more m2 B1.out); clear m2 x0 x1 x2 x3 x4 x5 x6 x7 x8 x9; obtain ⟨y0, y1, y2, y3, y4, y5, y6, y7, y8, y9⟩ := blk10 B2.out)) | (go_at_call 27; ((with_reducible refine (BytesH_yes p _ _ _ _ (HS.out.keep M2.out) HK.out HR.out).mono ?_); rintro e w3 ⟨⟨v3, rfl, o3⟩, m3⟩; have M3 := Lib.hid (M2.out.trans m3); have B3 := Lib.hid (blk_more m3 B2.out); have S3 := Lib.hid (SlI.of_owns o3 (owns_small o3)); clear y0 y1 y2 y3 y4 y5 y6 y7 y8 y9 m3; obtain ⟨z0, z1, z2, z3, z4, z5, z6, z7, z8, z9⟩ := blk10 B3.out;  obtain ⟨b3, n3, c3, rfl, hn3, -⟩ := slice_of_row o3; clear o3; rw [HN.out] at hn3; subst hn3)))
  go_ret
  exact ⟨rfl, M3.out⟩
set_option maxHeartbeats 4000000 in
theorem HeadCuts_head (p : Pk) (os oe op : Option Addr) (ks ke kp : Nat) (m : Nat) (w : World) (h : PkS w (.slice os p.ss.length ks) (.slice oe p.ex.length ke) (.slice op p.pl.length kp) p) (hk : PkOK p) (hc : m ≤ 255) (hl : lrgH p = false) (hr : rightH p = true) (N : Nat) (hN : (pkB p).length = N) (hm : m ≤ N) (he : m < (preB p).length) :
    Calls Try.prog 5 #[.agg #[.bool p.mr, .int .u8 p.ty, .int .u16 p.sq, .int .u32 p.st, .int .u32 p.sc, .slice os p.ss.length ks, .bool p.has, .int .u16 p.pr, .slice oe p.ex.length ke, .slice op p.pl.length kp], .int .u8 m] w fun e w' => e = .returned (.bool true) ∧ More w w' := by
  have h200 := byt_len hr
  have hsum : (pkB p).length = (preB p).length + p.pl.length := List.length_append
  have RC : Hid (readH ((pkB p).take m) = (pkZ, 3)) := Lib.hid (by
    have e1 : (pkB p).take m = (preB p).take m := by unfold pkB; rw [List.take_append_of_le_length (by omega)]
    rw [e1]
    exact read_cut hr hk m he (by omega))
  have HS := Lib.hid h
  have HK := Lib.hid hk
  have HPB := Lib.hid (pkB_byt hk)
  have M0 := Lib.hid (More.alloc w (.cells #[.bool p.mr, .int .u8 p.ty, .int .u16 p.sq, .int .u32 p.st, .int .u32 p.sc, .slice os p.ss.length ks, .bool p.has, .int .u16 p.pr, .slice oe p.ex.length ke, .slice op p.pl.length kp] 57))
  have B0 := Lib.hid (blk_new w (.cells #[.bool p.mr, .int .u8 p.ty, .int .u16 p.sq, .int .u32 p.st, .int .u32 p.sc, .slice os p.ss.length ks, .bool p.has, .int .u16 p.pr, .slice oe p.ex.length ke, .slice op p.pl.length kp] 57))
  have HL := Lib.hid hl
  have HR := Lib.hid hr
  have HN := Lib.hid hN
  obtain ⟨E, hE⟩ : ∃ E, (preB p).length = E := ⟨_, rfl⟩
  rw [hE] at he hsum
  have hmn : ¬ (N : Int) < (m : Int) := by omega
  have hme : (m : Int) < (E : Int) := by omega
  have hw : IntKind.i64.wrap (m : Int) = (m : Int) := IntWalk.i64_in _ (by omega)
  have hs : (N : Int) - (p.pl.length : Int) = (E : Int) := by omega
  have hw2 : IntKind.i64.wrap (E : Int) = (E : Int) := IntWalk.i64_in _ (by omega)
  clear h hk hl hr hE
  go_enter Try.func5, Try.ntmps5
  go_wp2_with (first | (go_at_call 25; ((with_reducible refine (awake04 _).mono ?_); rintro e w1 ⟨rfl, m1⟩; have M1 := Lib.hid (M0.out.trans m1); have B1 := Lib.hid (blk_more m1 B0.out); clear m1; obtain ⟨x0, x1, x2, x3, x4, x5, x6, x7, x8, x9⟩ := blk10 B1.out)) | (go_at_call 26; ((with_reducible refine (large04d p _ _ _ _ (HS.out.keep M1.out)).mono ?_); rintro e w2 ⟨rfl, m2⟩; rw [HL.out]; have M2 := Lib.hid (M1.out.trans m2); have B2 := Lib.hid (blk_more m2 B1.out); clear m2 x0 x1 x2 x3 x4 x5 x6 x7 x8 x9; obtain ⟨y0, y1, y2, y3, y4, y5, y6, y7, y8, y9⟩ := blk10 B2.out)) | (go_at_call 27; ((with_reducible refine (BytesH_yes p _ _ _ _ (HS.out.keep M2.out) HK.out HR.out).mono ?_); rintro e w3 ⟨⟨v3, rfl, o3⟩, m3⟩; have M3 := Lib.hid (M2.out.trans m3); have B3 := Lib.hid (blk_more m3 B2.out); have S3 := Lib.hid (SlI.of_owns o3 (owns_small o3)); clear y0 y1 y2 y3 y4 y5 y6 y7 y8 y9 m3; obtain ⟨z0, z1, z2, z3, z4, z5, z6, z7, z8, z9⟩ := blk10 B3.out; obtain ⟨v4, hv4, s4⟩ := sl_upto8 S3.out m (by omega); have S4 := Lib.hid s4; clear s4; obtain ⟨b3, n3, c3, rfl, hn3, -⟩ := slice_of_row o3; clear o3; rw [HN.out] at hn3; subst hn3)) | (go_at_call 30; ((with_reducible refine (ReadH_any v4 _ _ S4.out (Byt.take HPB.out m)).mono ?_); rintro e w5 ⟨va, vb, vc, he, ps, m5⟩; rw [RC.out] at he ps; obtain rfl := he; have M5 := Lib.hid (M3.out.trans m5); have B5 := Lib.hid (blk_more m5 B3.out); obtain ⟨⟨oa, ka, rfl⟩, ⟨ob, kb, rfl⟩, ⟨oc, kc, rfl⟩⟩ := PkS.three ps 0 0 0 rfl rfl rfl; have PZ := Lib.hid (ps.keep (More.alloc w5 (.cells #[.bool false, .int .u8 0, .int .u16 0, .int .u32 0, .int .u32 0, .slice oa 0 ka, .bool false, .int .u16 0, .slice ob 0 kb, .slice oc 0 kc] 57))); have B6 := Lib.hid (blk_alloc B5.out ((.cells #[.bool false, .int .u8 0, .int .u16 0, .int .u32 0, .int .u32 0, .slice oa 0 ka, .bool false, .int .u16 0, .slice ob 0 kb, .slice oc 0 kc] 57))); clear ps m5 z0 z1 z2 z3 z4 z5 z6 z7 z8 z9; obtain ⟨q0, q1, q2, q3, q4, q5, q6, q7, q8, q9⟩ := blk10 B6.out)) | (go_at_call 29; ((with_reducible refine (own04 pkZ _ _ _ _ PZ.out).mono ?_); rintro e w6 ⟨rfl, m6⟩; have M6 := Lib.hid (M5.out.trans ((More.alloc w5 (.cells #[.bool false, .int .u8 0, .int .u16 0, .int .u32 0, .int .u32 0, .slice oa 0 ka, .bool false, .int .u16 0, .slice ob 0 kb, .slice oc 0 kc] 57)).trans m6)); have P6 := Lib.hid (PZ.out.keep m6); clear m6)) | (go_at_call 35; ((with_reducible refine (Same04_eq pkZ _ _ _ _ _ _ _ P6.out ⟨SlI.nil _ _, SlI.nil _ _, SlI.nil _ _⟩).mono ?_); rintro e w7 ⟨rfl, m7⟩; have M7 := Lib.hid (M6.out.trans m7); clear m7)))
  go_ret
  exact ⟨rfl, M7.out⟩

end Go.Proofs.Ytlnikmcimmnbmaa
