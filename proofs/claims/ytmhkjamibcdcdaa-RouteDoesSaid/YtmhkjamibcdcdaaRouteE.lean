/- Acts on tables; the document's awake on them. -/
import Derived.Test.YtmhkjamibcdcdaaRouteD
import Derived.Test.YtmhkjamibcdcdaaSameI
namespace Go.Proofs.Ytmhkjamibcdcdaa
open Go.RowKit
set_option maxRecDepth 100000

structure A19 where
  d : Int
  x : Int
  p : Int
  own : Int
  s0 : Int
  s1 : Int
  s2 : Int
def A19.cells (a : A19) : Array Value := #[.int .i64 a.d, .int .i64 a.x, .int .i64 a.p, .int .u32 a.own, .int .u32 a.s0, .int .u32 a.s1, .int .u32 a.s2]
def doT (t : TS) (a : A19) : TS × Int := if a.d = 0 then pubT t a.p a.s0 a.s1 a.s2 else if a.d = 1 then joinT t a.x a.own else if a.d = 2 then leaveT t a.x else if a.d = 3 then subT t a.x a.p else if a.d = 4 then unsubT t a.x else (t, 0)
abbrev T3 (a b c : Nat) : Nat → Prop := fun z => z = a ∨ z = b ∨ z = c
theorem T3.ab {a b c : Nat} {w w' : World} (h : Away (fun z => z = a ∨ z = b) w w') : Away (T3 a b c) w w' := h.mono fun _ k => k.elim Or.inl fun k => Or.inr (Or.inl k)
theorem T3.c {a b c : Nat} {w w' : World} (h : Away (fun z => z = c) w w') : Away (T3 a b c) w w' := h.mono fun _ k => Or.inr (Or.inr k)
def DoPost (r : TS × Int) (T a b c : Nat) (w : World) (e : Ending) (w' : World) : Prop := e = .returned (.int .i64 r.2) ∧ TabAt w' T a b c r.1 ∧ Away (T3 a b c) w w'
set_option maxHeartbeats 2000000 in
theorem RTDo {w : World} {T a b c : Nat} {t : TS} (h : TabAt w T a b c t) (y : A19) :
    Calls Try.prog 37 #[.pointer (some ⟨T, 0, none⟩), .agg #[.int .i64 y.d, .int .i64 y.x, .int .i64 y.p, .int .u32 y.own, .int .u32 y.s0, .int .u32 y.s1, .int .u32 y.s2]] w (DoPost (doT t y) T a b c w) := by
  have HX := Lib.hid (h.more (More.alloc w (.cells #[.int .i64 y.d, .int .i64 y.x, .int .i64 y.p, .int .u32 y.own, .int .u32 y.s0, .int .u32 y.s1, .int .u32 y.s2] 88)))
  clear h
  obtain ⟨d, x, p, own, s0, s1, s2⟩ := y
  simp only at HX ⊢
  have hways : d = 0 ∨ d = 1 ∨ d = 2 ∨ d = 3 ∨ d = 4 ∨ (¬ d = 0 ∧ ¬ d = 1 ∧ ¬ d = 2 ∧ ¬ d = 3 ∧ ¬ d = 4) := by omega
  rcases hways with rfl | rfl | rfl | rfl | rfl | ⟨h0, h1, h2, h3, h4⟩
  · have e0 : doT t ⟨0, x, p, own, s0, s1, s2⟩ = pubT t p s0 s1 s2 := by unfold doT; simp
    have E0 := Lib.hid e0
    clear e0
    go_enter Try.func37, Try.ntmps37
    go_wp2_with (go_at_call 77; ((with_reducible refine (RTPublish HX.out p s0 s1 s2).mono ?_); rintro e w6 ⟨rfl, h6, a6⟩; have H6 := Lib.hid h6; have A6 := Lib.hid a6; clear h6 a6))
    go_ret
    unfold DoPost
    rw [E0.out]
    exact ⟨rfl, H6.out, (Away.of_more (More.alloc _ _)).trans (T3.ab A6.out)⟩
  · have e0 : doT t ⟨1, x, p, own, s0, s1, s2⟩ = joinT t x own := by unfold doT; simp
    have E0 := Lib.hid e0
    clear e0
    go_enter Try.func37, Try.ntmps37
    go_wp2_with (go_at_call 78; ((with_reducible refine (RTJoin HX.out x own).mono ?_); rintro e w6 ⟨rfl, h6, a6⟩; have H6 := Lib.hid h6; have A6 := Lib.hid a6; clear h6 a6))
    go_ret
    unfold DoPost
    rw [E0.out]
    exact ⟨rfl, H6.out, (Away.of_more (More.alloc _ _)).trans (T3.c A6.out)⟩
  · have e0 : doT t ⟨2, x, p, own, s0, s1, s2⟩ = leaveT t x := by unfold doT; simp
    have E0 := Lib.hid e0
    clear e0
    go_enter Try.func37, Try.ntmps37
    go_wp2_with (go_at_call 81; ((with_reducible refine (RTLeave HX.out x).mono ?_); rintro e w6 ⟨rfl, h6, a6⟩; have H6 := Lib.hid h6; have A6 := Lib.hid a6; clear h6 a6))
    go_ret
    unfold DoPost
    rw [E0.out]
    exact ⟨rfl, H6.out, (Away.of_more (More.alloc _ _)).trans (T3.c A6.out)⟩
  · have e0 : doT t ⟨3, x, p, own, s0, s1, s2⟩ = subT t x p := by unfold doT; simp
    have E0 := Lib.hid e0
    clear e0
    go_enter Try.func37, Try.ntmps37
    go_wp2_with (go_at_call 79; ((with_reducible refine (RTSubscribe HX.out x p).mono ?_); rintro e w6 ⟨rfl, h6, a6⟩; have H6 := Lib.hid h6; have A6 := Lib.hid a6; clear h6 a6))
    go_ret
    unfold DoPost
    rw [E0.out]
    exact ⟨rfl, H6.out, (Away.of_more (More.alloc _ _)).trans (T3.c A6.out)⟩
  · have e0 : doT t ⟨4, x, p, own, s0, s1, s2⟩ = unsubT t x := by unfold doT; simp
    have E0 := Lib.hid e0
    clear e0
    go_enter Try.func37, Try.ntmps37
    go_wp2_with (go_at_call 80; ((with_reducible refine (RTUnsubscribe HX.out x).mono ?_); rintro e w6 ⟨rfl, h6, a6⟩; have H6 := Lib.hid h6; have A6 := Lib.hid a6; clear h6 a6))
    go_ret
    unfold DoPost
    rw [E0.out]
    exact ⟨rfl, H6.out, (Away.of_more (More.alloc _ _)).trans (T3.c A6.out)⟩
  · have e0 : doT t ⟨d, x, p, own, s0, s1, s2⟩ = (t, 0) := by unfold doT; simp [h0, h1, h2, h3, h4]
    have E0 := Lib.hid e0
    have b0 : (d == 0) = false := by simpa using h0
    have b1 : (d == 1) = false := by simpa using h1
    have b2 : (d == 2) = false := by simpa using h2
    have b3 : (d == 3) = false := by simpa using h3
    have b4 : (d == 4) = false := by simpa using h4
    clear e0 h0 h1 h2 h3 h4
    go_enter Try.func37, Try.ntmps37
    go_wp2
    go_ret
    unfold DoPost
    rw [E0.out]
    exact ⟨rfl, HX.out, Away.of_more (More.alloc _ _)⟩

theorem aw19_1 : pubT ⟨[], [], []⟩ 1 7 8 9 = (⟨[(7, (1, 0)), (8, (1, 1)), (9, (1, 2))], [((1, 0), 7), ((1, 1), 8), ((1, 2), 9)], []⟩, 0) := by rfl
theorem aw19_2 : pubT ⟨[(7, (1, 0)), (8, (1, 1)), (9, (1, 2))], [((1, 0), 7), ((1, 1), 8), ((1, 2), 9)], []⟩ 0 1 2 9 = (⟨[(7, (1, 0)), (8, (1, 1)), (9, (1, 2))], [((1, 0), 7), ((1, 1), 8), ((1, 2), 9)], []⟩, 6) := by rfl
theorem aw19_3 : joinT ⟨[(7, (1, 0)), (8, (1, 1)), (9, (1, 2))], [((1, 0), 7), ((1, 1), 8), ((1, 2), 9)], []⟩ 3 50 = (⟨[(7, (1, 0)), (8, (1, 1)), (9, (1, 2))], [((1, 0), 7), ((1, 1), 8), ((1, 2), 9)], [(3, (50, false, 0))]⟩, 0) := by rfl
theorem aw19_4 : joinT ⟨[(7, (1, 0)), (8, (1, 1)), (9, (1, 2))], [((1, 0), 7), ((1, 1), 8), ((1, 2), 9)], [(3, (50, false, 0))]⟩ 3 50 = (⟨[(7, (1, 0)), (8, (1, 1)), (9, (1, 2))], [((1, 0), 7), ((1, 1), 8), ((1, 2), 9)], [(3, (50, false, 0))]⟩, 6) := by rfl
theorem aw19_5 : subT ⟨[(7, (1, 0)), (8, (1, 1)), (9, (1, 2))], [((1, 0), 7), ((1, 1), 8), ((1, 2), 9)], [(3, (50, false, 0))]⟩ 3 0 = (⟨[(7, (1, 0)), (8, (1, 1)), (9, (1, 2))], [((1, 0), 7), ((1, 1), 8), ((1, 2), 9)], [(3, (50, false, 0))]⟩, 5) := by rfl
theorem aw19_6 : subT ⟨[(7, (1, 0)), (8, (1, 1)), (9, (1, 2))], [((1, 0), 7), ((1, 1), 8), ((1, 2), 9)], [(3, (50, false, 0))]⟩ 3 1 = (⟨[(7, (1, 0)), (8, (1, 1)), (9, (1, 2))], [((1, 0), 7), ((1, 1), 8), ((1, 2), 9)], [(3, (50, true, 1))]⟩, 0) := by rfl
theorem aw19_7 : unsubT ⟨[(7, (1, 0)), (8, (1, 1)), (9, (1, 2))], [((1, 0), 7), ((1, 1), 8), ((1, 2), 9)], [(3, (50, true, 1))]⟩ 3 = (⟨[(7, (1, 0)), (8, (1, 1)), (9, (1, 2))], [((1, 0), 7), ((1, 1), 8), ((1, 2), 9)], [(3, (50, false, 0))]⟩, 0) := by rfl
theorem aw19_8 : leaveT ⟨[(7, (1, 0)), (8, (1, 1)), (9, (1, 2))], [((1, 0), 7), ((1, 1), 8), ((1, 2), 9)], [(3, (50, false, 0))]⟩ 3 = (⟨[(7, (1, 0)), (8, (1, 1)), (9, (1, 2))], [((1, 0), 7), ((1, 1), 8), ((1, 2), 9)], []⟩, 0) := by rfl
theorem aw19_9 : leaveT ⟨[(7, (1, 0)), (8, (1, 1)), (9, (1, 2))], [((1, 0), 7), ((1, 1), 8), ((1, 2), 9)], []⟩ 3 = (⟨[(7, (1, 0)), (8, (1, 1)), (9, (1, 2))], [((1, 0), 7), ((1, 1), 8), ((1, 2), 9)], []⟩, 5) := by rfl
theorem aw19_10 : pubT ⟨[(7, (1, 0)), (8, (1, 1)), (9, (1, 2))], [((1, 0), 7), ((1, 1), 8), ((1, 2), 9)], []⟩ 3 0 0 0 = (⟨[(7, (1, 0)), (8, (1, 1)), (9, (1, 2))], [((1, 0), 7), ((1, 1), 8), ((1, 2), 9)], []⟩, 1) := by rfl
theorem aw19_s : whichT (prPub 1) [(3, (50, true, 1))] = [3] := by
  unfold whichT
  have : selT (prPub 1) [(3, (50, true, 1))] = [3] := by decide
  rw [this]
  exact srt_of_sorted (by simp)
theorem aw19_o : whichT (prOwn 50) [(3, (50, true, 1))] = [3] := by
  unfold whichT
  have : selT (prOwn 50) [(3, (50, true, 1))] = [3] := by decide
  rw [this]
  exact srt_of_sorted (by simp)
theorem org_eql (x y : Int) (w : World) : (binOp .eql 74 (.agg #[.int .i64 x, .int .i64 y]) (.agg #[.int .i64 x, .int .i64 y])).run Try.prog w = .ok (.bool true) w := by
  have h1 : Try.prog.stoodInHeld 74 = false := by kernel_rfl
  rw [run_eql_struct, show (10000 : Nat) = 9999 + 1 from rfl, run_equalIn_agg w 9999 74 _ _ (by kernel_rfl) h1]
  simp [go_sem]
theorem org_guard : Try.prog.eqGuardType Try.prog.depth 74 = false := by kernel_rfl
structure Aw19 (w2 : World) (T a b c : Nat) (t : TS) (x : World) : Prop where
  tab : TabAt x T a b c t
  away : Away (T3 a b c) w2 x
theorem Aw19.on {w2 x y : World} {T a b c : Nat} {t t' : TS} (h : Aw19 w2 T a b c t x) (ht : TabAt y T a b c t') (m : Away (T3 a b c) x y) : Aw19 w2 T a b c t' y := ⟨ht, h.away.trans m⟩
theorem Aw19.more {w2 x y : World} {T a b c : Nat} {t : TS} (h : Aw19 w2 T a b c t x) (m : More x y) : Aw19 w2 T a b c t y := h.on (h.tab.more m) (Away.of_more m)
theorem Aw19.all {w w2 x : World} {T a b c : Nat} {t : TS} (h : Aw19 w2 T a b c t x) (m2 : More w w2) (ha : w.heap.size ≤ a) (hb : w.heap.size ≤ b) (hc : w.heap.size ≤ c) : More w x := Away.to_more m2 h.away (fun k hk => by rcases hk with rfl | rfl | rfl <;> assumption)
theorem SlI.onaway3 {k : IntKind} {w w' : World} {T a b c : Nat} {t : TS} {v : Value} {l : List Int} (h : SlI k w v l) (ht : TabAt w T a b c t) (m : Away (T3 a b c) w w') : SlI k w' v l := by
  obtain ⟨oa, cap, h1, h2, h3, h4⟩ := h
  refine ⟨oa, cap, h1, h2, fun i hi => ?_, h4⟩
  obtain ⟨z, off, e, hz, hv⟩ := h3 i hi
  have hne : ¬ T3 a b c z := by
    rintro (rfl | rfl | rfl)
    · obtain ⟨es, cl, hb, _⟩ := ht.mo.ex
      simp [World.cell?, hb] at hv
    · obtain ⟨es, cl, hb, _⟩ := ht.ms.ex
      simp [World.cell?, hb] at hv
    · obtain ⟨es, cl, hb, _⟩ := ht.mu.ex
      simp [World.cell?, hb] at hv
  exact ⟨z, off, e, Nat.lt_of_lt_of_le hz m.size, by rw [m.cells z (off + i) hz hne]; exact hv⟩
set_option maxHeartbeats 8000000 in
theorem awake19 (w : World) : Calls Try.prog 35 #[] w fun e w' => e = .returned (.bool true) ∧ More w w' := by
  have EG := org_guard
  have qe := fun w => org_eql 1 1 w
  have tok1 : True := trivial
  have tok2 : True := trivial
  have tok3 : True := trivial
  go_enter Try.func35, Try.ntmps35
  go_wp2_with first | (go_at_call 36; ((with_reducible refine (RTNew _).mono ?_); rintro e w2 ⟨T, a, b, c, rfl, hT, ha, hb, hc, h2, m2⟩; have K2 : Hid (Aw19 w2 T a b c ⟨[], [], []⟩ w2) := Lib.hid ⟨h2, Away.refl _ _⟩; have M2 := Lib.hid m2; clear h2 m2)) | (go_at_call 77; ((with_reducible refine (RTPublish K2.out.tab 1 7 8 9).mono ?_); rintro e w3 ⟨rfl, h3, a3⟩; rw [aw19_1] at h3 ⊢; have K3 := Lib.hid (K2.out.on h3 (T3.ab a3)); clear h3 a3)) | (go_at_call 77; ((with_reducible refine (RTPublish K3.out.tab 0 1 2 9).mono ?_); rintro e w4 ⟨rfl, h4, a4⟩; rw [aw19_2] at h4 ⊢; have K4 := Lib.hid (K3.out.on h4 (T3.ab a4)); clear h4 a4)) | (go_at_call 78; ((with_reducible refine ((fun (_ : True) => RTJoin K4.out.tab 3 50) tok1).mono ?_); rintro e w5 ⟨rfl, h5, a5⟩; rw [aw19_3] at h5 ⊢; clear tok1; have K5 := Lib.hid (K4.out.on h5 (T3.c a5)); clear h5 a5)) | (go_at_call 78; ((with_reducible refine (RTJoin K5.out.tab 3 50).mono ?_); rintro e w6 ⟨rfl, h6, a6⟩; rw [aw19_4] at h6 ⊢; have K6 := Lib.hid (K5.out.on h6 (T3.c a6)); clear h6 a6)) | (go_at_call 79; ((with_reducible refine (RTSubscribe K6.out.tab 3 0).mono ?_); rintro e w7 ⟨rfl, h7, a7⟩; rw [aw19_5] at h7 ⊢; have K7 := Lib.hid (K6.out.on h7 (T3.c a7)); clear h7 a7)) | (go_at_call 79; ((with_reducible refine (RTSubscribe K7.out.tab 3 1).mono ?_); rintro e w8 ⟨rfl, h8, a8⟩; rw [aw19_6] at h8 ⊢; have K8 := Lib.hid (K7.out.on h8 (T3.c a8)); clear h8 a8)) | (go_at_call 39; ((with_reducible refine (RTFind K8.out.tab 8).mono ?_); rintro e w9 ⟨rfl, m9⟩; rw [show mget ([(7, (1, 0)), (8, (1, 1)), (9, (1, 2))] : List (Int × Og)) 8 = some (1, 1) from rfl]; have K10 := Lib.hid ((K8.out.more m9).more (More.alloc w9 (.cells #[.int .i64 1, .int .i64 1] 74))); have B10 := Lib.hid (blk_new w9 (.cells #[.int .i64 1, .int .i64 1] 74)); clear m9)) | (go_at_call 45; ((with_reducible refine (RTSource K10.out.tab (1, 2)).mono ?_); rintro e w11 ⟨rfl, m11⟩; rw [show mget ([((1, 0), 7), ((1, 1), 8), ((1, 2), 9)] : List (Og × Int)) (1, 2) = some 9 from rfl]; have K11 := Lib.hid (K10.out.more m11); have B11 := Lib.hid (blk_more m11 B10.out); clear m11)) | (go_at_call 43; ((with_reducible refine (RTOf K11.out.tab 3).mono ?_); rintro e w12 ⟨rfl, m12⟩; rw [show mget ([(3, (50, true, 1))] : List (Int × Sb)) 3 = some (50, true, 1) from rfl]; have K12 := Lib.hid (K11.out.more m12); have B12 := Lib.hid (blk_more m12 B11.out); clear m12)) | (go_at_call 47; ((with_reducible refine (RTSubs K12.out.tab 1 (by decide)).mono ?_); rintro e w13 ⟨⟨v13, rfl, s13⟩, m13⟩; rw [aw19_s] at s13; have S13 := Lib.hid s13; obtain ⟨o13, k13, rfl, _⟩ := s13; have S13 : Hid (SlI .i64 w13 (.slice o13 1 k13) [3]) := S13; have K13 := Lib.hid (K12.out.more m13); have B13 := Lib.hid (blk_more m13 B12.out); clear m13)) | (go_at_call 41; ((with_reducible refine (RTOwners K13.out.tab 50 (by decide)).mono ?_); rintro e w14 ⟨⟨v14, rfl, s14⟩, m14⟩; rw [aw19_o] at s14; have S14 := Lib.hid s14; obtain ⟨o14, k14, rfl, _⟩ := s14; have S14 : Hid (SlI .i64 w14 (.slice o14 1 k14) [3]) := S14; have K14 := Lib.hid (K13.out.more m14); have B14 := Lib.hid (blk_more m14 B13.out); have R14 := Lib.hid (S13.out.keep m14); have lt14 := blk_lt B14.out; clear m14)) | (go_at_call 80; ((with_reducible refine (RTUnsubscribe K14.out.tab 3).mono ?_); rintro e w15 ⟨rfl, h15, a15⟩; rw [aw19_7] at h15 ⊢; have K15 := Lib.hid (K14.out.on h15 (T3.c a15)); have B15 := Lib.hid (a15.blk B14.out (map_ne B14.out K14.out.tab.mu)); have R15 := Lib.hid (R14.out.onaway3 K14.out.tab (T3.c a15)); have S15 := Lib.hid (S14.out.onaway3 K14.out.tab (T3.c a15)); clear h15 a15)) | (go_at_call 81; ((with_reducible refine ((fun (_ : True) => RTLeave K15.out.tab 3) tok2).mono ?_); rintro e w16 ⟨rfl, h16, a16⟩; rw [aw19_8] at h16 ⊢; clear tok2; have K16 := Lib.hid (K15.out.on h16 (T3.c a16)); have B16 := Lib.hid (a16.blk B15.out (map_ne B15.out K15.out.tab.mu)); have R16 := Lib.hid (R15.out.onaway3 K15.out.tab (T3.c a16)); have S16 := Lib.hid (S15.out.onaway3 K15.out.tab (T3.c a16)); have g0 := blk_cell B16.out 0 (v := .int .i64 1) rfl; have g1 := blk_cell B16.out 1 (v := .int .i64 1) rfl; clear h16 a16)) | (go_at_call 34; ((with_reducible refine (SameI_any [3] [3] _ _ (w16.alloc (.cells #[.int .i64 3] 3)) (R16.out.keep (More.alloc _ _)) (SlI.lit .i64 w16 [3] 3 _ 1 _ (by simp) rfl rfl (by simp))).mono ?_); rintro e w17 ⟨rfl, k17, rfl⟩; rw [decide_eq_true rfl])) | (go_at_call 34; ((with_reducible refine (SameI_any [3] [3] _ _ (((w16.alloc (.cells #[.int .i64 3] 3)).drewN k17).alloc (.cells #[.int .i64 3] 3)) (S16.out.keep (((More.alloc _ _).dr _).al _)) (SlI.lit .i64 ((w16.alloc (.cells #[.int .i64 3] 3)).drewN k17) [3] 3 _ 1 _ (by simp) rfl (by simp) (by simp))).mono ?_); rintro e w18 ⟨rfl, k18, rfl⟩; rw [decide_eq_true rfl]; have K18 := Lib.hid (K16.out.more ((((More.alloc w16 (.cells #[.int .i64 3] 3)).dr k17).al (.cells #[.int .i64 3] 3)).dr k18)))) | (go_at_call 81; ((with_reducible refine (RTLeave K18.out.tab 3).mono ?_); rintro e w19 ⟨rfl, h19, a19⟩; rw [aw19_9] at h19 ⊢; have K19 := Lib.hid (K18.out.on h19 (T3.c a19)); clear h19 a19)) | (go_at_call 77; ((with_reducible refine (RTPublish K19.out.tab 3 0 0 0).mono ?_); rintro e w20 ⟨rfl, h20, a20⟩; rw [aw19_10] at h20 ⊢; have K20 := Lib.hid (K19.out.on h20 (T3.ab a20)); clear h20 a20))
  go_ret
  exact ⟨rfl, K20.out.all M2.out ha hb hc⟩
end Go.Proofs.Ytmhkjamibcdcdaa
