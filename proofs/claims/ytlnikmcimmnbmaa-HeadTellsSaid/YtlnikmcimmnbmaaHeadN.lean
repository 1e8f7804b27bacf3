/- Packets: HeadTells, walked; the law. -/
import Derived.Test.YtlnikmcimmnbmaaHeadM
import Derived.Test.YtlnikmcimmnbmaaHeadI
namespace Go.Proofs.Ytlnikmcimmnbmaa
set_option linter.unusedSimpArgs false
set_option linter.unusedVariables false
open Go.RowKit
set_option maxRecDepth 100000

theorem RReadH_any (v : Value) (b : List Int) (w : World) (sl : SlI .u8 w v b) (hb : Byt b) :
    Calls Try.prog 31 #[v] w (ReadPost (readH b) w) := by
  rw [← readHD_eq]
  by_cases hl : (200 : Int) < b.length
  · exact RReadH_long v b w sl hl
  by_cases h12 : (b.length : Int) < 12
  · exact RReadH_short v b w sl hl h12
  obtain ⟨f, b, rfl⟩ : ∃ f l, b = f :: l := by cases b with | nil => exact absurd (by simp) h12 | cons f l => exact ⟨f, l, rfl⟩
  obtain ⟨g, r, rfl⟩ : ∃ g l, b = g :: l := by cases b with | nil => exact absurd (by simp) h12 | cons f l => exact ⟨f, l, rfl⟩
  by_cases hf : f < 128 ∨ 191 < f
  · exact RReadH_form v f g r w sl hb hl h12 hf
  · exact RReadH_main v f g r w sl hb hl h12 hf
/-- What a packet's bytes are, and what goes wrong. -/
def bh (p : Pk) : List Int × Int := if rightH p then (pkB p, 0) else ([], 1)
theorem BytesH_all (p : Pk) (vs ve vp : Value) (w : World) (h : PkS w vs ve vp p) (hk : PkOK p) (hm : PkSm p) :
    Calls Try.prog 27 #[.agg #[.bool p.mr, .int .u8 p.ty, .int .u16 p.sq, .int .u32 p.st, .int .u32 p.sc, vs, .bool p.has, .int .u16 p.pr, ve, vp]] w fun e w' => ∃ v, e = .returned (.tuple #[v, .int .i64 (bh p).2]) ∧ SlI .u8 w' v (bh p).1 ∧ More w w' := by
  by_cases hr : rightH p = true
  · refine (BytesH_yes p vs ve vp w h hk hr).mono ?_
    rintro e w' ⟨⟨v, rfl, ho⟩, m⟩
    have e1 : bh p = (pkB p, 0) := if_pos hr
    rw [e1]
    exact ⟨v, rfl, SlI.of_owns ho (owns_small ho), m⟩
  · refine (BytesH_no p vs ve vp w h hm (by simpa using hr)).mono ?_
    rintro e w' ⟨rfl, m⟩
    have e1 : bh p = ([], 1) := if_neg hr
    rw [e1]
    exact ⟨_, rfl, SlI.nil _ _, m⟩
theorem RBytesH_all (p : Pk) (vs ve vp : Value) (w : World) (h : PkS w vs ve vp p) (hk : PkOK p) (hm : PkSm p) :
    Calls Try.prog 28 #[.agg #[.bool p.mr, .int .u8 p.ty, .int .u16 p.sq, .int .u32 p.st, .int .u32 p.sc, vs, .bool p.has, .int .u16 p.pr, ve, vp]] w fun e w' => ∃ v, e = .returned (.tuple #[v, .int .i64 (bh p).2]) ∧ SlI .u8 w' v (bh p).1 ∧ More w w' := by
  by_cases hr : rightH p = true
  · refine (RBytesH_yes p vs ve vp w h hk hr).mono ?_
    rintro e w' ⟨⟨v, rfl, ho⟩, m⟩
    have e1 : bh p = (pkB p, 0) := if_pos hr
    rw [e1]
    exact ⟨v, rfl, ho, m⟩
  · refine (RBytesH_no p vs ve vp w h hm (by simpa using hr)).mono ?_
    rintro e w' ⟨rfl, m⟩
    have e1 : bh p = ([], 1) := if_neg hr
    rw [e1]
    exact ⟨_, rfl, SlI.nil _ _, m⟩
theorem Same_self (l : List Int) (va vb : Value) (w : World) (ha : SlI .u8 w va l) (hb : SlI .u8 w vb l) :
    Calls Try.prog 34 #[va, vb] w fun e w' => e = .returned (.bool true) ∧ More w w' :=
  (Same_any l l va vb w ha hb).mono fun _ _ ⟨he, k, hk⟩ => ⟨by rw [he, decide_eq_true rfl], by rw [hk]; exact More.drewN _ _⟩
theorem Ctl_more (b : List Int) (v : Value) (w : World) (sl : SlI .u8 w v b) :
    Calls Try.prog 36 #[v] w fun e w' => e = .returned (.bool (ctlH b)) ∧ More w w' :=
  (CtlH_any v b w sl).mono fun _ _ ⟨he, hk⟩ => ⟨he, by rw [← hk]; exact More.refl _⟩
theorem RCtl_more (b : List Int) (v : Value) (w : World) (sl : SlI .u8 w v b) :
    Calls Try.prog 37 #[v] w fun e w' => e = .returned (.bool (ctlH b)) ∧ More w w' :=
  (RCtlH_any v b w sl).mono fun _ _ ⟨he, hk⟩ => ⟨he, by rw [← hk]; exact More.refl _⟩
set_option maxHeartbeats 4000000 in
theorem HeadTells_large (p : Pk) (os oe op : Option Addr) (ks ke kp : Nat) (vb : Value) (b : List Int) (w : World) (h : PkS w (.slice os p.ss.length ks) (.slice oe p.ex.length ke) (.slice op p.pl.length kp) p) (hb : SlI .u8 w vb b) (hl : lrgH p = true) :
    Calls Try.prog 4 #[.agg #[.bool p.mr, .int .u8 p.ty, .int .u16 p.sq, .int .u32 p.st, .int .u32 p.sc, .slice os p.ss.length ks, .bool p.has, .int .u16 p.pr, .slice oe p.ex.length ke, .slice op p.pl.length kp], vb] w fun e w' => e = .returned (.bool true) ∧ More w w' := by
  obtain ⟨ob, cb, rfl, hlb, hcb, -⟩ := hb
  have HS := Lib.hid h
  have M0 := Lib.hid (More.alloc w (.cells #[.bool p.mr, .int .u8 p.ty, .int .u16 p.sq, .int .u32 p.st, .int .u32 p.sc, .slice os p.ss.length ks, .bool p.has, .int .u16 p.pr, .slice oe p.ex.length ke, .slice op p.pl.length kp] 57))
  have B0 := Lib.hid (blk_new w (.cells #[.bool p.mr, .int .u8 p.ty, .int .u16 p.sq, .int .u32 p.st, .int .u32 p.sc, .slice os p.ss.length ks, .bool p.has, .int .u16 p.pr, .slice oe p.ex.length ke, .slice op p.pl.length kp] 57))
  have HL := Lib.hid hl
  clear h hl
  go_enter Try.func4, Try.ntmps4
  go_wp2_with (first | (go_at_call 25; ((with_reducible refine (awake04 _).mono ?_); rintro e w1 ⟨rfl, m1⟩; have M1 := Lib.hid (M0.out.trans m1); have B1 := Lib.hid (blk_more m1 B0.out); clear m1; obtain ⟨x0, x1, x2, x3, x4, x5, x6, x7, x8, x9⟩ := blk10 B1.out)) | (go_at_call 26; ((with_reducible refine (large04d p _ _ _ _ (HS.out.keep M1.out)).mono ?_); rintro e w2 ⟨rfl, m2⟩; rw [HL.out]; have M2 := Lib.hid (M1.out.trans m2); have B2 := Lib.hid (blk_more m2 B1.out); clear m2 x0 x1 x2 x3 x4 x5 x6 x7 x8 x9; obtain ⟨y0, y1, y2, y3, y4, y5, y6, y7, y8, y9⟩ := blk10 B2.out)))
  go_ret
  exact ⟨rfl, M2.out⟩
set_option maxHeartbeats 4000000 in
theorem HeadTells_long (p : Pk) (os oe op : Option Addr) (ks ke kp : Nat) (vb : Value) (b : List Int) (w : World) (h : PkS w (.slice os p.ss.length ks) (.slice oe p.ex.length ke) (.slice op p.pl.length kp) p) (hb : SlI .u8 w vb b) (hl : lrgH p = false) (h1 : (1000 : Int) < b.length) :
    Calls Try.prog 4 #[.agg #[.bool p.mr, .int .u8 p.ty, .int .u16 p.sq, .int .u32 p.st, .int .u32 p.sc, .slice os p.ss.length ks, .bool p.has, .int .u16 p.pr, .slice oe p.ex.length ke, .slice op p.pl.length kp], vb] w fun e w' => e = .returned (.bool true) ∧ More w w' := by
  obtain ⟨ob, cb, rfl, hlb, hcb, -⟩ := hb
  have HS := Lib.hid h
  have M0 := Lib.hid (More.alloc w (.cells #[.bool p.mr, .int .u8 p.ty, .int .u16 p.sq, .int .u32 p.st, .int .u32 p.sc, .slice os p.ss.length ks, .bool p.has, .int .u16 p.pr, .slice oe p.ex.length ke, .slice op p.pl.length kp] 57))
  have B0 := Lib.hid (blk_new w (.cells #[.bool p.mr, .int .u8 p.ty, .int .u16 p.sq, .int .u32 p.st, .int .u32 p.sc, .slice os p.ss.length ks, .bool p.has, .int .u16 p.pr, .slice oe p.ex.length ke, .slice op p.pl.length kp] 57))
  have HL := Lib.hid hl
  clear h hl
  go_enter Try.func4, Try.ntmps4
  go_wp2_with (first | (go_at_call 25; ((with_reducible refine (awake04 _).mono ?_); rintro e w1 ⟨rfl, m1⟩; have M1 := Lib.hid (M0.out.trans m1); have B1 := Lib.hid (blk_more m1 B0.out); clear m1; obtain ⟨x0, x1, x2, x3, x4, x5, x6, x7, x8, x9⟩ := blk10 B1.out)) | (go_at_call 26; ((with_reducible refine (large04d p _ _ _ _ (HS.out.keep M1.out)).mono ?_); rintro e w2 ⟨rfl, m2⟩; rw [HL.out]; have M2 := Lib.hid (M1.out.trans m2); have B2 := Lib.hid (blk_more m2 B1.out); clear m2 x0 x1 x2 x3 x4 x5 x6 x7 x8 x9; obtain ⟨y0, y1, y2, y3, y4, y5, y6, y7, y8, y9⟩ := blk10 B2.out)))
  go_ret
  exact ⟨rfl, M2.out⟩
set_option maxHeartbeats 8000000 in
theorem HeadTells_main (p : Pk) (os oe op : Option Addr) (ks ke kp : Nat) (vb : Value) (b : List Int) (w : World) (h : PkS w (.slice os p.ss.length ks) (.slice oe p.ex.length ke) (.slice op p.pl.length kp) p) (hk : PkOK p) (hb : SlI .u8 w vb b) (hbb : Byt b) (hl : lrgH p = false) (h1 : ¬ (1000 : Int) < b.length) :
    Calls Try.prog 4 #[.agg #[.bool p.mr, .int .u8 p.ty, .int .u16 p.sq, .int .u32 p.st, .int .u32 p.sc, .slice os p.ss.length ks, .bool p.has, .int .u16 p.pr, .slice oe p.ex.length ke, .slice op p.pl.length kp], vb] w fun e w' => e = .returned (.bool true) ∧ More w w' := by
  obtain ⟨S, hS⟩ : ∃ S, readH b = S := ⟨_, rfl⟩
  obtain ⟨q, E⟩ := S
  have RC := Lib.hid hS
  obtain ⟨bx, hbh1⟩ : ∃ l, (bh p).1 = l := ⟨_, rfl⟩
  obtain ⟨be, hbh2⟩ : ∃ l, (bh p).2 = l := ⟨_, rfl⟩
  have HS := Lib.hid h
  have HK := Lib.hid hk
  have HBB := Lib.hid hbb
  have HB := Lib.hid hb
  have HSM := Lib.hid (lrgH_no hl).1
  have M0 := Lib.hid (More.alloc w (.cells #[.bool p.mr, .int .u8 p.ty, .int .u16 p.sq, .int .u32 p.st, .int .u32 p.sc, .slice os p.ss.length ks, .bool p.has, .int .u16 p.pr, .slice oe p.ex.length ke, .slice op p.pl.length kp] 57))
  have B0 := Lib.hid (blk_new w (.cells #[.bool p.mr, .int .u8 p.ty, .int .u16 p.sq, .int .u32 p.st, .int .u32 p.sc, .slice os p.ss.length ks, .bool p.has, .int .u16 p.pr, .slice oe p.ex.length ke, .slice op p.pl.length kp] 57))
  have HL := Lib.hid hl
  obtain ⟨ob, cb, rfl, hlb, hcb, -⟩ := hb
  clear h hk hl hbb hS
  go_enter Try.func4, Try.ntmps4
  go_wp2_with (first | (go_at_call 25; ((with_reducible refine (awake04 _).mono ?_); rintro e w1 ⟨rfl, m1⟩; have M1 := Lib.hid (M0.out.trans m1); have B1 := Lib.hid (blk_more m1 B0.out); clear m1; obtain ⟨x0, x1, x2, x3, x4, x5, x6, x7, x8, x9⟩ := blk10 B1.out)) | (go_at_call 26; ((with_reducible refine (large04d p _ _ _ _ (HS.out.keep M1.out)).mono ?_); rintro e w2 ⟨rfl, m2⟩; rw [HL.out]; have M2 := Lib.hid (M1.out.trans m2); have B2 := Lib.hid (blk_more m2 B1.out); clear m2 x0 x1 x2 x3 x4 x5 x6 x7 x8 x9; obtain ⟨y0, y1, y2, y3, y4, y5, y6, y7, y8, y9⟩ := blk10 B2.out)) | (go_at_call 27; ((with_reducible refine (BytesH_all p _ _ _ _ (HS.out.keep M2.out) HK.out HSM.out).mono ?_); rintro e w3 ⟨v3, rfl, s3, m3⟩; rw [hbh1] at s3; rw [hbh2]; have M3 := Lib.hid (M2.out.trans m3); have B3 := Lib.hid (blk_more m3 B2.out); have S3 := Lib.hid s3; clear s3 y0 y1 y2 y3 y4 y5 y6 y7 y8 y9 m3; obtain ⟨z0, z1, z2, z3, z4, z5, z6, z7, z8, z9⟩ := blk10 B3.out)) | (go_at_call 29; ((with_reducible refine (own04 p _ _ _ _ (HS.out.keep M3.out)).mono ?_); rintro e w4 ⟨rfl, m4⟩; have M4 := Lib.hid (M3.out.trans m4); have B4 := Lib.hid (blk_more m4 B3.out); have S4 := Lib.hid (S3.out.keep m4); clear m4 z0 z1 z2 z3 z4 z5 z6 z7 z8 z9)) | (go_at_call 28; ((with_reducible refine (RBytesH_all p _ _ _ _ (HS.out.keep M4.out) HK.out HSM.out).mono ?_); rintro e w5 ⟨v5, rfl, s5, m5⟩; rw [hbh1] at s5; rw [hbh2]; have M5 := Lib.hid (M4.out.trans m5); have B5 := Lib.hid (blk_more m5 B4.out); have S5 := Lib.hid (S4.out.keep m5); have Y5 := Lib.hid s5; clear s5 m5)) | (go_at_call 30; ((with_reducible refine (ReadH_any (.slice ob b.length cb) b _ (HB.out.keep M5.out) HBB.out).mono ?_); rintro e w6 ⟨va, vx, vc, he, ps, m6⟩; rw [RC.out] at he ps; obtain rfl := he; obtain ⟨⟨qa, ka, rfl⟩, ⟨qb, kb, rfl⟩, ⟨qc, kc, rfl⟩⟩ := PkS.three ps q.ss.length q.ex.length q.pl.length rfl rfl rfl; have n6 := m6.trans (More.alloc w6 (.cells #[.bool q.mr, .int .u8 q.ty, .int .u16 q.sq, .int .u32 q.st, .int .u32 q.sc, .slice qa q.ss.length ka, .bool q.has, .int .u16 q.pr, .slice qb q.ex.length kb, .slice qc q.pl.length kc] 57)); have M6 := Lib.hid (M5.out.trans n6); have B6 := Lib.hid (blk_more n6 B5.out); have S6 := Lib.hid (S5.out.keep n6); have Y6 := Lib.hid (Y5.out.keep n6); have X6 := Lib.hid (blk_new w6 (.cells #[.bool q.mr, .int .u8 q.ty, .int .u16 q.sq, .int .u32 q.st, .int .u32 q.sc, .slice qa q.ss.length ka, .bool q.has, .int .u16 q.pr, .slice qb q.ex.length kb, .slice qc q.pl.length kc] 57)); have PQ6 := Lib.hid (ps.keep (More.alloc w6 (.cells #[.bool q.mr, .int .u8 q.ty, .int .u16 q.sq, .int .u32 q.st, .int .u32 q.sc, .slice qa q.ss.length ka, .bool q.has, .int .u16 q.pr, .slice qb q.ex.length kb, .slice qc q.pl.length kc] 57))); clear ps m6 n6)) | (go_at_call 31; ((with_reducible refine (RReadH_any (.slice ob b.length cb) b _ (HB.out.keep M6.out) HBB.out).mono ?_); rintro e w7 ⟨vf, vg, vh, he, ps, m7⟩; rw [RC.out] at he ps; obtain rfl := he; obtain ⟨⟨ra, la, rfl⟩, ⟨rb, lb, rfl⟩, ⟨rc, lc, rfl⟩⟩ := PkS.three ps q.ss.length q.ex.length q.pl.length rfl rfl rfl; have n7 := m7.trans (More.alloc w7 (.cells #[.bool q.mr, .int .u8 q.ty, .int .u16 q.sq, .int .u32 q.st, .int .u32 q.sc, .slice ra q.ss.length la, .bool q.has, .int .u16 q.pr, .slice rb q.ex.length lb, .slice rc q.pl.length lc] 64)); have M7 := Lib.hid (M6.out.trans n7); have B7 := Lib.hid (blk_more n7 B6.out); have S7 := Lib.hid (S6.out.keep n7); have Y7 := Lib.hid (Y6.out.keep n7); have X7 := Lib.hid (blk_more n7 X6.out); have PQ7 := Lib.hid (PQ6.out.keep n7); have PU7 := Lib.hid (ps.keep (More.alloc w7 (.cells #[.bool q.mr, .int .u8 q.ty, .int .u16 q.sq, .int .u32 q.st, .int .u32 q.sc, .slice ra q.ss.length la, .bool q.has, .int .u16 q.pr, .slice rb q.ex.length lb, .slice rc q.pl.length lc] 64))); have U7 := Lib.hid (blk_new w7 (.cells #[.bool q.mr, .int .u8 q.ty, .int .u16 q.sq, .int .u32 q.st, .int .u32 q.sc, .slice ra q.ss.length la, .bool q.has, .int .u16 q.pr, .slice rb q.ex.length lb, .slice rc q.pl.length lc] 64)); clear ps m7 n7)))
  generalize (w7.alloc (.cells #[.bool q.mr, .int .u8 q.ty, .int .u16 q.sq, .int .u32 q.st, .int .u32 q.sc, .slice ra q.ss.length la, .bool q.has, .int .u16 q.pr, .slice rb q.ex.length lb, .slice rc q.pl.length lc] 64)) = w8 at *
  have B8 := B7
  have X8 := X7
  have U8 := U7
  clear B7 X7 U7
  have d0 : ∀ x : Later w8, x.w'.cell? ⟨w.heap.size, 0, none⟩ = some (.bool p.mr) := fun x => blk_cell (blk_more x.h B8.out) 0 rfl
  have d1 : ∀ x : Later w8, x.w'.cell? ⟨w.heap.size, 1, none⟩ = some (.int .u8 p.ty) := fun x => blk_cell (blk_more x.h B8.out) 1 rfl
  have d2 : ∀ x : Later w8, x.w'.cell? ⟨w.heap.size, 2, none⟩ = some (.int .u16 p.sq) := fun x => blk_cell (blk_more x.h B8.out) 2 rfl
  have d3 : ∀ x : Later w8, x.w'.cell? ⟨w.heap.size, 3, none⟩ = some (.int .u32 p.st) := fun x => blk_cell (blk_more x.h B8.out) 3 rfl
  have d4 : ∀ x : Later w8, x.w'.cell? ⟨w.heap.size, 4, none⟩ = some (.int .u32 p.sc) := fun x => blk_cell (blk_more x.h B8.out) 4 rfl
  have d5 : ∀ x : Later w8, x.w'.cell? ⟨w.heap.size, 5, none⟩ = some (.slice os p.ss.length ks) := fun x => blk_cell (blk_more x.h B8.out) 5 rfl
  have d6 : ∀ x : Later w8, x.w'.cell? ⟨w.heap.size, 6, none⟩ = some (.bool p.has) := fun x => blk_cell (blk_more x.h B8.out) 6 rfl
  have d7 : ∀ x : Later w8, x.w'.cell? ⟨w.heap.size, 7, none⟩ = some (.int .u16 p.pr) := fun x => blk_cell (blk_more x.h B8.out) 7 rfl
  have d8 : ∀ x : Later w8, x.w'.cell? ⟨w.heap.size, 8, none⟩ = some (.slice oe p.ex.length ke) := fun x => blk_cell (blk_more x.h B8.out) 8 rfl
  have d9 : ∀ x : Later w8, x.w'.cell? ⟨w.heap.size, 9, none⟩ = some (.slice op p.pl.length kp) := fun x => blk_cell (blk_more x.h B8.out) 9 rfl
  have e0 : ∀ x : Later w8, x.w'.cell? ⟨w6.heap.size, 0, none⟩ = some (.bool q.mr) := fun x => blk_cell (blk_more x.h X8.out) 0 rfl
  have e1 : ∀ x : Later w8, x.w'.cell? ⟨w6.heap.size, 1, none⟩ = some (.int .u8 q.ty) := fun x => blk_cell (blk_more x.h X8.out) 1 rfl
  have e2 : ∀ x : Later w8, x.w'.cell? ⟨w6.heap.size, 2, none⟩ = some (.int .u16 q.sq) := fun x => blk_cell (blk_more x.h X8.out) 2 rfl
  have e3 : ∀ x : Later w8, x.w'.cell? ⟨w6.heap.size, 3, none⟩ = some (.int .u32 q.st) := fun x => blk_cell (blk_more x.h X8.out) 3 rfl
  have e4 : ∀ x : Later w8, x.w'.cell? ⟨w6.heap.size, 4, none⟩ = some (.int .u32 q.sc) := fun x => blk_cell (blk_more x.h X8.out) 4 rfl
  have e5 : ∀ x : Later w8, x.w'.cell? ⟨w6.heap.size, 5, none⟩ = some (.slice qa q.ss.length ka) := fun x => blk_cell (blk_more x.h X8.out) 5 rfl
  have e6 : ∀ x : Later w8, x.w'.cell? ⟨w6.heap.size, 6, none⟩ = some (.bool q.has) := fun x => blk_cell (blk_more x.h X8.out) 6 rfl
  have e7 : ∀ x : Later w8, x.w'.cell? ⟨w6.heap.size, 7, none⟩ = some (.int .u16 q.pr) := fun x => blk_cell (blk_more x.h X8.out) 7 rfl
  have e8 : ∀ x : Later w8, x.w'.cell? ⟨w6.heap.size, 8, none⟩ = some (.slice qb q.ex.length kb) := fun x => blk_cell (blk_more x.h X8.out) 8 rfl
  have e9 : ∀ x : Later w8, x.w'.cell? ⟨w6.heap.size, 9, none⟩ = some (.slice qc q.pl.length kc) := fun x => blk_cell (blk_more x.h X8.out) 9 rfl
  have f0 : ∀ x : Later w8, x.w'.cell? ⟨w7.heap.size, 0, none⟩ = some (.bool q.mr) := fun x => blk_cell (blk_more x.h U8.out) 0 rfl
  have f1 : ∀ x : Later w8, x.w'.cell? ⟨w7.heap.size, 1, none⟩ = some (.int .u8 q.ty) := fun x => blk_cell (blk_more x.h U8.out) 1 rfl
  have f2 : ∀ x : Later w8, x.w'.cell? ⟨w7.heap.size, 2, none⟩ = some (.int .u16 q.sq) := fun x => blk_cell (blk_more x.h U8.out) 2 rfl
  have f3 : ∀ x : Later w8, x.w'.cell? ⟨w7.heap.size, 3, none⟩ = some (.int .u32 q.st) := fun x => blk_cell (blk_more x.h U8.out) 3 rfl
  have f4 : ∀ x : Later w8, x.w'.cell? ⟨w7.heap.size, 4, none⟩ = some (.int .u32 q.sc) := fun x => blk_cell (blk_more x.h U8.out) 4 rfl
  have f5 : ∀ x : Later w8, x.w'.cell? ⟨w7.heap.size, 5, none⟩ = some (.slice ra q.ss.length la) := fun x => blk_cell (blk_more x.h U8.out) 5 rfl
  have f6 : ∀ x : Later w8, x.w'.cell? ⟨w7.heap.size, 6, none⟩ = some (.bool q.has) := fun x => blk_cell (blk_more x.h U8.out) 6 rfl
  have f7 : ∀ x : Later w8, x.w'.cell? ⟨w7.heap.size, 7, none⟩ = some (.int .u16 q.pr) := fun x => blk_cell (blk_more x.h U8.out) 7 rfl
  have f8 : ∀ x : Later w8, x.w'.cell? ⟨w7.heap.size, 8, none⟩ = some (.slice rb q.ex.length lb) := fun x => blk_cell (blk_more x.h U8.out) 8 rfl
  have f9 : ∀ x : Later w8, x.w'.cell? ⟨w7.heap.size, 9, none⟩ = some (.slice rc q.pl.length lc) := fun x => blk_cell (blk_more x.h U8.out) 9 rfl
  have HB8 : Hid (SlI .u8 w8 (.slice ob b.length cb) b) := Lib.hid (HB.out.keep M7.out)
  have PP8 : Hid (PkS w8 (.slice os p.ss.length ks) (.slice oe p.ex.length ke) (.slice op p.pl.length kp) p) := Lib.hid (HS.out.keep M7.out)
  clear HB HS B6 B5 B4 B3 B2 B1 B0 X6 S6 S5 S4 S3 Y6 Y5 PQ6 M6 M5 M4 M3 M2 M1 M0 HL
  refine wp_region_later w8 (More.refl _) (by kernel_rfl) (by kernel_rfl) ?_
  repeat (go_big_quiet_step ((first | (go_at_call 32; with_reducible exact calls_later (RightH_any p _ _ _ _ (PP8.out.keep (Later.h _)) HSM.out)) | (go_at_call 33; with_reducible exact calls_later (RRightH_any p _ _ _ _ (PP8.out.keep (Later.h _)) HSM.out)) | (go_at_call 34; with_reducible exact calls_later (Same_self bx _ _ _ (S7.out.keep (Later.h _)) (Y7.out.keep (Later.h _)))) | (go_at_call 29; with_reducible exact calls_later (own04 p _ _ _ _ (PP8.out.keep (Later.h _)))) | (go_at_call 29; with_reducible exact calls_later (own04 q _ _ _ _ (PQ7.out.keep (Later.h _)))) | (go_at_call 35; with_reducible exact calls_later (Same04_eq q _ _ _ _ _ _ _ (PQ7.out.keep (Later.h _)) (PU7.out.keep (Later.h _)))) | (go_at_call 36; with_reducible exact calls_later (Ctl_more b _ _ (HB8.out.keep (Later.h _)))) | (go_at_call 37; with_reducible exact calls_later (RCtl_more b _ _ (HB8.out.keep (Later.h _)))))))
  refine wpQuiet_nil ?_
  intro _ hw'
  obtain ⟨x9, rfl⟩ := hw'
  go_wp2
  go_ret
  exact ⟨rfl, M7.out.trans x9.h⟩
theorem HeadTells_law (cs : Array Value) (p : Pk) (vb : Value) (b : List Int) (w : World) (rd : RPk w cs.toList p) (hb : SlI .u8 w vb b) (hbb : Byt b) :
    Calls Try.prog 4 #[.agg cs, vb] w fun e w' => e = .returned (.bool true) ∧ More w w' := by
  obtain ⟨vs, ve, vp, hcs, ps, ok⟩ := rd
  obtain rfl : cs = #[.bool p.mr, .int .u8 p.ty, .int .u16 p.sq, .int .u32 p.st, .int .u32 p.sc, vs, .bool p.has, .int .u16 p.pr, ve, vp] := by rw [← Array.toArray_toList (xs := cs), hcs]
  obtain ⟨⟨os, ks, rfl, -⟩, ⟨oe, ke, rfl, -⟩, ⟨op, kp, rfl, -⟩⟩ := id ps
  by_cases hl : lrgH p = true
  · exact HeadTells_large p os oe op ks ke kp vb b w ps hb hl
  have hl : lrgH p = false := by simpa using hl
  by_cases h1 : (1000 : Int) < b.length
  · exact HeadTells_long p os oe op ks ke kp vb b w ps hb hl h1
  · exact HeadTells_main p os oe op ks ke kp vb b w ps ok hb hbb hl h1

end Go.Proofs.Ytlnikmcimmnbmaa
