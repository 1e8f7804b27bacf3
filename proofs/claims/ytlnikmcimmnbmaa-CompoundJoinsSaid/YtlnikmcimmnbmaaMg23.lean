/- Merged from my texts FeedH. -/
import Derived.Test.YtlnikmcimmnbmaaMg22
import Derived.Test.YtlnikmcimmnbmaaMg19
/- Feedback messages: lost numbers, read. -/
namespace Go.Proofs.Ytlnikmcimmnbmaa
set_option linter.unusedSimpArgs false
set_option linter.unusedVariables false
open Go.RowKit
set_option maxRecDepth 100000

/-- A reader, and a row of numbers that grows. -/
structure LoJ (w0 w : World) (R : Nat) (C : Nat → Prop) (v : Value) (acc : List Int) (s : RdS) : Prop where
  rd : ReaderAt w R s.1 s.2 C
  row : w.ownsRow w0.heap.size 52 1 v acc.length (acc.map (Value.int .u16))
  away : Away (fun b => b = R) w0 w
  hC : ∀ g, C g → g < w0.heap.size
  hR : R < w0.heap.size
section
variable {w0 w w' : World} {R : Nat} {C : Nat → Prop} {v v' : Value} {acc acc' : List Int} {s s' : RdS}
theorem LoJ.read (h : LoJ w0 w R C v acc s) (r : ReaderAt w' R s'.1 s'.2 C) (a : Away (fun b => b = R) w w') : LoJ w0 w' R C v acc s' := ⟨r, owns_apart h.row a (fun b hb e => by have := owns_ge h.row hb; have := h.hR; omega), h.away.trans a, h.hC, h.hR⟩
theorem LoJ.on (h : LoJ w0 w R C v acc s) (m : More w w') : LoJ w0 w' R C v acc s := ⟨h.rd.more m, owns_more h.row m, h.away.more m, h.hC, h.hR⟩
theorem LoJ.put (h : LoJ w0 w R C v acc s) (ho : w'.ownsRow w0.heap.size 52 1 v' acc'.length (acc'.map (Value.int .u16))) (hg : w.grownBy w' v.ownBlock) : LoJ w0 w' R C v' acc' s := by
  have hv : ∀ g, v.ownBlock = some g → w0.heap.size ≤ g := fun g e => owns_ge h.row e
  have hs := h.away.size
  have a : Away (fun b => v.ownBlock = some b) w w' := ⟨hg.os, hg.tape, hg.output, hg.size, fun k hk hs => hg.block k hk (fun e => hs e.symm)⟩
  refine ⟨h.rd.off a (fun e => by have := hv R e; have := h.hR; omega) (fun g hc e => by have := hv g e; have := h.hC g hc; omega), ho, ?_, h.hC, h.hR⟩
  exact ⟨a.os.trans h.away.os, a.tape.trans h.away.tape, a.output.trans h.away.output, Nat.le_trans hs a.size, fun k hk hn => by
    rw [a.block k (Nat.lt_of_lt_of_le hk hs) (fun e => by have := hv k e; omega)]
    exact h.away.block k hk hn⟩
end
theorem readLostF_step {n : Nat} {acc : List Int} {s : RdS} (h : ¬ s.1 = []) : readLostF (n + 1) acc s = readLostF n (acc ++ prN (prS s).1) (newS acc (prS s).1 (prS s).2) := by
  show (if s.1 = [] then _ else _) = _
  rw [if_neg h]
theorem newS_len (acc : List Int) (p : Int × Int) (s : RdS) : (newS acc p s).1.length ≤ s.1.length := by
  unfold newS; split
  · exact wrS_len s 2
  · exact Nat.le_refl _
theorem prS_len {s : RdS} (h : ¬ s.1 = []) : (prS s).2.1.length + 1 ≤ s.1.length := by
  have h1 := List.length_pos_iff.2 h
  have e : (prS s).2.1 = (s.1.drop 2).drop 2 := rfl
  rw [e, List.length_drop, List.length_drop]; omega
theorem RdLeft_k {w : World} {R : Nat} {l : List Int} {e : Int} {C : Nat → Prop} (h : ReaderAt w R l e C) :
    Calls Try.prog 92 #[.pointer (some ⟨R, 0, none⟩)] w fun e' w' => e' = .returned (.int .i64 l.length) ∧ w = w' := (RdLeft_any h).mono fun _ _ ⟨a, b⟩ => ⟨a, b.symm⟩
theorem row_cellAt {w : World} {base e g k c : Nat} {acc : List Int} (h : w.ownsRow base e 1 (.slice (some ⟨g, 0, none⟩) (k + 1) c) acc.length (acc.map (Value.int .u16))) (hk : acc.length = k + 1) : w.cell? ⟨g, k, none⟩ = some (.int .u16 (acc.getD k 0)) := by
  rw [hk] at h
  rw [h.cellAt k (by omega), List.getElem?_map, List.getD_eq_getElem?_getD, List.getElem?_eq_getElem (by omega)]
  rfl
theorem pr_len17 (p : Int × Int) : 1 ≤ (prN p).length ∧ (prN p).length ≤ 17 := prN_len p
set_option maxHeartbeats 8000000 in
theorem ReadLost_any {w : World} {R : Nat} {s0 : RdS} {C0 : Nat → Prop} (h : ReaderAt w R s0.1 s0.2 C0) (hR : R < w.heap.size) :
    Calls Try.prog 108 #[.pointer (some ⟨R, 0, none⟩)] w fun e w' => ∃ v', e = .returned v' ∧ LoJ w w' R (fun g => C0 g ∧ g < w.heap.size) v' (readLostF s0.1.length [] (lostS s0)).1 (readLostF s0.1.length [] (lostS s0)).2 := by
  obtain ⟨i0, hi, hz0, hz1, hz2⟩ := info_parts (P := Try.prog) (e := 52) (z := .int .u16 0) (size := 1) (bytes := 2) (by kernel_rfl)
  obtain ⟨C, hC⟩ : ∃ C : Nat → Prop, C = fun g => C0 g ∧ g < w.heap.size := ⟨_, rfl⟩
  have h0 : ReaderAt w R s0.1 s0.2 C := by rw [hC]; exact h.old
  have HC : Hid (∀ g, C g → g < w.heap.size) := Lib.hid (by rw [hC]; exact fun g h => h.2)
  rw [← hC]
  have hsm := h.small
  have R0 := Lib.hid h0
  clear hC h h0
  have HWR := Lib.hid (fun w' (r : ReaderAt w' R s0.1 s0.2 C) => RdWrong_any (s := s0) r 2)
  go_enter Try.func108, Try.ntmps108
  go_upto_if 7 with (go_at_call 92; ((with_reducible refine (RdLeft_k R0.out).mono ?_); rintro e w9 ⟨rfl, rfl⟩))
  go_cut [] from 7 to 9 (fun wx => LoJ w wx R C (.slice none 0 0) [] (lostS s0))
  case first =>
    by_cases hs : s0.1.length = 0
    · have hp : ((s0.1.length : Int) == 0) = true := eqB (by omega)
      have hls : lostS s0 = wrS s0 2 := by unfold lostS; rw [if_pos hs]
      have HLS := Lib.hid hls
      clear hls hs
      go_wp2_with (first | (go_at_call 90; ((with_reducible refine (HWR.out _ R0.out).mono ?_); rintro e w3 ⟨rfl, r3, a3⟩; have J3 : Hid (LoJ w w3 R C (.slice none 0 0) [] (lostS s0)) := Lib.hid (by rw [HLS.out]; exact ⟨r3, World.ownsRow_nil _ _ _ _, a3, HC.out, hR⟩); clear r3 a3)))
      go_meet
      exact J3.out
    · have hp : ((s0.1.length : Int) == 0) = false := neB (by omega)
      have hls : lostS s0 = s0 := by unfold lostS; rw [if_neg hs]
      have HLS := Lib.hid hls
      clear hls hs
      go_wp2
      go_meet
      rw [HLS.out]
      exact ⟨R0.out, World.ownsRow_nil _ _ _ _, Away.refl _ _, HC.out, hR⟩
  case rest =>
  have J0 := Lib.hid hcut
  clear hcut HWR
  have hls : (lostS s0).1.length ≤ s0.1.length := by
    unfold lostS; split
    · exact wrS_len _ _
    · exact Nat.le_refl _
  go_wp2_with fail
  go_loopw [3] (fun v wr => ∃ acc s n, LoJ w wr R C v acc s ∧ s.1.length ≤ n ∧ readLostF n acc s = readLostF s0.1.length [] (lostS s0) ∧ acc.length + 17 * s.1.length ≤ 17 * s0.1.length ∧ (∀ x ∈ acc, U16 x)) (fun v _ => 17 * s0.1.length - lenOf v)
  case atStart => exact ⟨[], lostS s0, s0.1.length, J0.out, hls, rfl, by simp; omega, fun x hx => by cases hx⟩
  case round =>
    obtain ⟨acc, s, n, hJ, hn, hf, hl, hua⟩ := hrel
    have UA := Lib.hid hua
    clear hua
    have HJ := Lib.hid hJ
    have HF := Lib.hid hf
    obtain ⟨ov, nv, cv, rfl, hz8, hz9⟩ := slice_of_row hJ.row
    have HN := Lib.hid hz8
    clear hJ hf hz9
    by_cases hs : s.1 = []
    · have hf := HF.out
      obtain ⟨l, e⟩ := s
      simp only at hs
      subst hs
      rw [readLostF_nil] at hf
      have HE := Lib.hid hf
      clear hf hz8
      go_wp2_with (go_at_call 92; ((with_reducible refine (RdLeft_k HJ.out.rd).mono ?_); rintro e w9 ⟨rfl, rfl⟩))
      go_ret
      exact ⟨_, rfl, by rw [← HE.out]; exact HJ.out⟩
    · have hp := left_pos hs
      have hal := prS_len hs
      have hb := HJ.out.rd.byt
      obtain ⟨u1, u2, -⟩ := prS_ok hb
      obtain ⟨n, rfl⟩ : ∃ k, n = k + 1 := ⟨n - 1, by have := List.length_pos_iff.2 hs; omega⟩
      have HF2 : Hid (readLostF n (acc ++ prN (prS s).1) (newS acc (prS s).1 (prS s).2) = readLostF s0.1.length [] (lostS s0)) := Lib.hid (by rw [← readLostF_step hs]; exact HF.out)
      have HAL := Lib.hid hal
      have hnl := newS_len acc (prS s).1 (prS s).2
      obtain ⟨X1, hX1⟩ : ∃ X, num (tkB s.1 2) = X := ⟨_, rfl⟩
      obtain ⟨X2, hX2⟩ : ∃ X, num (tkB (tkS s 2).1 2) = X := ⟨_, rfl⟩
      have HX1 := Lib.hid hX1
      have HX2 := Lib.hid hX2
      have has : (prS s).1 = (X1, X2) := by rw [← hX1, ← hX2]; rfl
      rw [has] at HF2 hnl u1 u2
      have U1 := Lib.hid u1
      have U2 := Lib.hid u2
      have HP17 := Lib.hid (pr_len17 (X1, X2))
      clear hb hs hX1 hX2 has u1 u2
      have HWN := Lib.hid (fun w' (r : ReaderAt w' R (prS s).2.1 (prS s).2.2 C) => RdWrong_any (s := (prS s).2) r 2)
      by_cases ha : acc = []
      · subst ha
        have e : newS [] (X1, X2) (prS s).2 = (prS s).2 := by unfold newS; rw [if_neg (fun h => h.1 rfl)]
        have HF3 : Hid (readLostF n ([] ++ prN (X1, X2)) (prS s).2 = readLostF s0.1.length [] (lostS s0)) := Lib.hid (by rw [← e]; exact HF2.out)
        have HSL : Hid ((prS s).2.1.length + 1 ≤ s.1.length) := HAL
        obtain rfl : nv = 0 := hz8
        clear e hnl hal
        go_wp2_with (first | (go_at_call 92; ((with_reducible refine (RdLeft_k HJ.out.rd).mono ?_); rintro e w9 ⟨rfl, rfl⟩)) | (go_at_call 89; ((with_reducible refine (RdShort_any HJ.out.rd).mono ?_); rintro e w2 ⟨rfl, r2, a2⟩; rw [HX1.out]; have J2 := Lib.hid (HJ.out.read (s' := tkS s 2) r2 a2); clear r2 a2)) | (go_at_call 89; ((with_reducible refine (RdShort_any J2.out.rd).mono ?_); rintro e w3 ⟨rfl, r3, a3⟩; rw [HX2.out]; have J3 := Lib.hid ((J2.out.read (s' := (prS s).2) r3 a3).on (More.alloc w3 (.cells #[.int .u16 X1, .int .u16 X2] 179))); have HS3 := Lib.hid ((J2.out.read (s' := (prS s).2) r3 a3).away.size); have B3 := Lib.hid (blk_new w3 (.cells #[.int .u16 X1, .int .u16 X2] 179)); clear r3 a3)))
        generalize hq3 : w3.alloc (.cells #[.int .u16 X1, .int .u16 X2] 179) = x3 at *
        clear hq3
        generalize w3.heap.size = P3 at *
        have p0 : ∀ x : Later x3, x.w'.cell? ⟨P3, 0, none⟩ = some (.int .u16 X1) := fun x => blk_cell (blk_more x.h B3.out) 0 rfl
        refine wp_region_later x3 (More.refl _) (by kernel_rfl) (by kernel_rfl) ?_
        repeat (go_big_quiet_step (fail))
        refine wpQuiet_nil ?_
        intro _ hw'
        obtain ⟨x9, rfl⟩ := hw'
        have J4 := Lib.hid (J3.out.on x9.h)
        have b0 := p0 x9
        have b1 : x9.w'.cell? ⟨P3, 1, none⟩ = some (.int .u16 X2) := blk_cell (blk_more x9.h B3.out) 1 rfl
        clear p0 J3
        go_wp2_with (first | (go_at_call 145; ((with_reducible refine (PLost_any (X1, X2) _ U1.out U2.out).mono ?_); rintro e w6 ⟨v6, rfl, o6, m6⟩; have J6 := Lib.hid (J4.out.on m6); have S6 := Lib.hid (SlI.of_owns o6 (by have := HP17.out.2; omega)); obtain ⟨ov6, nv6, cv6, rfl, hz6, -⟩ := slice_of_row o6; clear o6 m6 hz6)) | (at_builtin; refine wpList_append_at _ rfl (.tmp 35) (.tmp 37) 83 rfl w.heap.size 52 i0 (.int .u16 0) 2 Try.underlying83 hi hz0 hz1 hz2 rfl _ .u16 [] rfl J6.out.row _ (prN (X1, X2)) rfl S6.out (by have := HP17.out.2; simp only [List.length_nil] at *; omega) (by decide) J6.out.away.size ?_; intro v7 w7 ho7 hg7 _; have J7 := Lib.hid (J6.out.put ho7 hg7); obtain ⟨o7, n7, c7, rfl, hz7, -⟩ := slice_of_row ho7; have HN7 := Lib.hid hz7; clear ho7 hg7 hz7))
        go_roundw
        case rel => exact ⟨[] ++ prN (X1, X2), (prS s).2, n, J7.out, by have := HSL.out; omega, HF3.out, by have := HSL.out; have := HP17.out.2; rw [List.length_append]; simp only [List.length_nil] at *; omega, fun x hx => (List.mem_append.1 hx).elim (UA.out x) (prN_u16 U1.out x)⟩
        case measure => have := HN7.out; have := HN.out; have := HP17.out.1; simp [lenOf, List.length_append] at *; omega
      · obtain ⟨k, hk⟩ : ∃ k, acc.length = k + 1 := ⟨acc.length - 1, by have := List.length_pos_iff.2 ha; omega⟩
        have hlast := getLastD_eq ha
        rw [hk, Nat.add_sub_cancel] at hlast
        have hu16 := UA.out _ (getD_mem (l := acc) (i := k) (by omega))
        have HKL := Lib.hid hk
        rw [hk] at hz8
        subst hz8
        obtain ⟨g, cg, hvg, hg1, hg2, -⟩ := row_form HJ.out.row (by omega)
        rw [hk] at hvg
        cases hvg
        obtain ⟨y, hy⟩ : ∃ y, acc.getD k 0 = y := ⟨_, rfl⟩
        rw [hy] at hu16 hlast
        have HY := Lib.hid hy
        have HNW := Lib.hid (fun w => Newer_any y X1 w hu16 U1.out)
        have hk1 : (0 : Int) < (k : Int) + 1 := by omega
        have hk63 : (k : Int) ≤ 9223372036854775807 := by omega
        by_cases hd : 0 < ahd y X1
        · have e : newS acc (X1, X2) (prS s).2 = (prS s).2 := by unfold newS; rw [if_neg (fun h => h.2 (by rw [hlast]; exact hd))]
          have HF3 : Hid (readLostF n (acc ++ prN (X1, X2)) (prS s).2 = readLostF s0.1.length [] (lostS s0)) := Lib.hid (by rw [← e]; exact HF2.out)
          have HSL : Hid ((prS s).2.1.length + 1 ≤ s.1.length) := HAL
          have hb1 : decide (0 < ahd y X1) = true := decide_eq_true hd
          clear e hnl hal hd ha hk hlast hu16 hy
          go_wp2_with (first | (go_at_call 92; ((with_reducible refine (RdLeft_k HJ.out.rd).mono ?_); rintro e w9 ⟨rfl, rfl⟩)) | (go_at_call 89; ((with_reducible refine (RdShort_any HJ.out.rd).mono ?_); rintro e w2 ⟨rfl, r2, a2⟩; rw [HX1.out]; have J2 := Lib.hid (HJ.out.read (s' := tkS s 2) r2 a2); clear r2 a2)) | (go_at_call 89; ((with_reducible refine (RdShort_any J2.out.rd).mono ?_); rintro e w3 ⟨rfl, r3, a3⟩; rw [HX2.out]; have J3 := Lib.hid ((J2.out.read (s' := (prS s).2) r3 a3).on (More.alloc w3 (.cells #[.int .u16 X1, .int .u16 X2] 179))); have HS3 := Lib.hid ((J2.out.read (s' := (prS s).2) r3 a3).away.size); have B3 := Lib.hid (blk_new w3 (.cells #[.int .u16 X1, .int .u16 X2] 179)); clear r3 a3)))
          generalize hq3 : w3.alloc (.cells #[.int .u16 X1, .int .u16 X2] 179) = x3 at *
          clear hq3
          have HGP : Hid (∀ x : Later x3, x.w'.cell? ⟨g, k, none⟩ = some (.int .u16 y)) := Lib.hid (fun x => by
            have h9 := row_cellAt (owns_more J3.out.row x.h) HKL.out
            rw [h9, HY.out])
          have HPG := HGP.out
          generalize w3.heap.size = P3 at *
          have p0 : ∀ x : Later x3, x.w'.cell? ⟨P3, 0, none⟩ = some (.int .u16 X1) := fun x => blk_cell (blk_more x.h B3.out) 0 rfl
          refine wp_region_later x3 (More.refl _) (by kernel_rfl) (by kernel_rfl) ?_
          repeat (go_big_quiet_step ((go_at_call 144; with_reducible exact calls_later_same ((HNW.out _).mono fun _ _ ⟨e, h⟩ => ⟨e, h.symm⟩))))
          refine wpQuiet_nil ?_
          intro _ hw'
          obtain ⟨x9, rfl⟩ := hw'
          have J4 := Lib.hid (J3.out.on x9.h)
          have b0 := p0 x9
          have b1 : x9.w'.cell? ⟨P3, 1, none⟩ = some (.int .u16 X2) := blk_cell (blk_more x9.h B3.out) 1 rfl
          have HB4 := Lib.hid (blk_more x9.h B3.out)
          clear p0 J3 HPG HGP
          have J5 := J4
          go_wp2_with (first | (go_at_call 145; ((with_reducible refine (PLost_any (X1, X2) _ U1.out U2.out).mono ?_); rintro e w6 ⟨v6, rfl, o6, m6⟩; have J6 := Lib.hid (J5.out.on m6); have S6 := Lib.hid (SlI.of_owns o6 (by have := HP17.out.2; omega)); obtain ⟨ov6, nv6, cv6, rfl, hz6, -⟩ := slice_of_row o6; clear o6 m6 hz6)) | (at_builtin; refine wpList_append_at _ rfl (.tmp 35) (.tmp 37) 83 rfl w.heap.size 52 i0 (.int .u16 0) 2 Try.underlying83 hi hz0 hz1 hz2 rfl _ .u16 acc rfl J6.out.row _ (prN (X1, X2)) rfl S6.out (by have := HP17.out.2; have := HKL.out; omega) (by decide) J6.out.away.size ?_; intro v7 w7 ho7 hg7 _; have J7 := Lib.hid (J6.out.put ho7 hg7); obtain ⟨o7, n7, c7, rfl, hz7, -⟩ := slice_of_row ho7; have HN7 := Lib.hid hz7; clear ho7 hg7 hz7))
          go_roundw
          case rel => exact ⟨acc ++ prN (X1, X2), (prS s).2, n, J7.out, by have := HSL.out; omega, HF3.out, by have := HSL.out; have := HP17.out.2; rw [List.length_append]; omega, fun x hx => (List.mem_append.1 hx).elim (UA.out x) (prN_u16 U1.out x)⟩
          case measure => have := HN7.out; have := HKL.out; have := HP17.out.1; simp [lenOf, List.length_append] at *; omega
        · have e : newS acc (X1, X2) (prS s).2 = wrS (prS s).2 2 := by unfold newS; rw [if_pos ⟨ha, by rw [hlast]; exact hd⟩]
          have HF3 : Hid (readLostF n (acc ++ prN (X1, X2)) (wrS (prS s).2 2) = readLostF s0.1.length [] (lostS s0)) := Lib.hid (by rw [← e]; exact HF2.out)
          have HSL : Hid ((wrS (prS s).2 2).1.length + 1 ≤ s.1.length) := Lib.hid (by have := HAL.out; have := wrS_len (prS s).2 2; omega)
          have hb1 : decide (0 < ahd y X1) = false := decide_eq_false hd
          clear e hnl hal hd ha hk hlast hu16 hy
          go_wp2_with (first | (go_at_call 92; ((with_reducible refine (RdLeft_k HJ.out.rd).mono ?_); rintro e w9 ⟨rfl, rfl⟩)) | (go_at_call 89; ((with_reducible refine (RdShort_any HJ.out.rd).mono ?_); rintro e w2 ⟨rfl, r2, a2⟩; rw [HX1.out]; have J2 := Lib.hid (HJ.out.read (s' := tkS s 2) r2 a2); clear r2 a2)) | (go_at_call 89; ((with_reducible refine (RdShort_any J2.out.rd).mono ?_); rintro e w3 ⟨rfl, r3, a3⟩; rw [HX2.out]; have J3 := Lib.hid ((J2.out.read (s' := (prS s).2) r3 a3).on (More.alloc w3 (.cells #[.int .u16 X1, .int .u16 X2] 179))); have HS3 := Lib.hid ((J2.out.read (s' := (prS s).2) r3 a3).away.size); have B3 := Lib.hid (blk_new w3 (.cells #[.int .u16 X1, .int .u16 X2] 179)); clear r3 a3)))
          generalize hq3 : w3.alloc (.cells #[.int .u16 X1, .int .u16 X2] 179) = x3 at *
          clear hq3
          have HGP : Hid (∀ x : Later x3, x.w'.cell? ⟨g, k, none⟩ = some (.int .u16 y)) := Lib.hid (fun x => by
            have h9 := row_cellAt (owns_more J3.out.row x.h) HKL.out
            rw [h9, HY.out])
          have HPG := HGP.out
          generalize w3.heap.size = P3 at *
          have p0 : ∀ x : Later x3, x.w'.cell? ⟨P3, 0, none⟩ = some (.int .u16 X1) := fun x => blk_cell (blk_more x.h B3.out) 0 rfl
          refine wp_region_later x3 (More.refl _) (by kernel_rfl) (by kernel_rfl) ?_
          repeat (go_big_quiet_step ((go_at_call 144; with_reducible exact calls_later_same ((HNW.out _).mono fun _ _ ⟨e, h⟩ => ⟨e, h.symm⟩))))
          refine wpQuiet_nil ?_
          intro _ hw'
          obtain ⟨x9, rfl⟩ := hw'
          have J4 := Lib.hid (J3.out.on x9.h)
          have b0 := p0 x9
          have b1 : x9.w'.cell? ⟨P3, 1, none⟩ = some (.int .u16 X2) := blk_cell (blk_more x9.h B3.out) 1 rfl
          have HB4 := Lib.hid (blk_more x9.h B3.out)
          clear p0 J3 HPG HGP
          go_wp2_with (first | (go_at_call 90; ((with_reducible refine (HWN.out _ J4.out.rd).mono ?_); rintro e w5 ⟨rfl, r5, a5⟩; have J5 := Lib.hid (J4.out.read (s' := wrS (prS s).2 2) r5 a5); have B5 := Lib.hid (a5.blk HB4.out (fun e => by have := J4.out.hR; have := HS3.out; omega)); clear r5 a5 b0 b1; have b0 := blk_cell B5.out 0 (v := .int .u16 X1) rfl; have b1 := blk_cell B5.out 1 (v := .int .u16 X2) rfl)) | (go_at_call 145; ((with_reducible refine (PLost_any (X1, X2) _ U1.out U2.out).mono ?_); rintro e w6 ⟨v6, rfl, o6, m6⟩; have J6 := Lib.hid (J5.out.on m6); have S6 := Lib.hid (SlI.of_owns o6 (by have := HP17.out.2; omega)); obtain ⟨ov6, nv6, cv6, rfl, hz6, -⟩ := slice_of_row o6; clear o6 m6 hz6)) | (at_builtin; refine wpList_append_at _ rfl (.tmp 35) (.tmp 37) 83 rfl w.heap.size 52 i0 (.int .u16 0) 2 Try.underlying83 hi hz0 hz1 hz2 rfl _ .u16 acc rfl J6.out.row _ (prN (X1, X2)) rfl S6.out (by have := HP17.out.2; have := HKL.out; omega) (by decide) J6.out.away.size ?_; intro v7 w7 ho7 hg7 _; have J7 := Lib.hid (J6.out.put ho7 hg7); obtain ⟨o7, n7, c7, rfl, hz7, -⟩ := slice_of_row ho7; have HN7 := Lib.hid hz7; clear ho7 hg7 hz7))
          go_roundw
          case rel => exact ⟨acc ++ prN (X1, X2), (wrS (prS s).2 2), n, J7.out, by have := HSL.out; omega, HF3.out, by have := HSL.out; have := HP17.out.2; rw [List.length_append]; omega, fun x hx => (List.mem_append.1 hx).elim (UA.out x) (prN_u16 U1.out x)⟩
          case measure => have := HN7.out; have := HKL.out; have := HP17.out.1; simp [lenOf, List.length_append] at *; omega
end Go.Proofs.Ytlnikmcimmnbmaa
