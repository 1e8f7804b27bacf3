/- Package jitter: awake. -/
import Derived.Test.YtlnikmcimmnbmaaJitN
import Derived.Test.YtlnikmcimmnbmaaSameI
namespace Go.Proofs.Ytlnikmcimmnbmaa
set_option linter.unusedSimpArgs false
set_option linter.unusedVariables false
open Go.RowKit Go.Lib
set_option maxRecDepth 100000

/-- The buffers of awake. -/
def j0 : Jb := newJ 3 5
def j1 : Jb := (pushJ j0 7 0 70).1
def j2 : Jb := (popJ j1 0).1
def j3 : Jb := (pushJ j2 9 1 90).1
def j4 : Jb := (popJ j3 2).1
def j5 : Jb := (pushJ j4 8 3 80).1
def j6 : Jb := (popJ j5 3).1
def j7 : Jb := (pushJ j6 8 3 1).1
def j8 : Jb := (pushJ j7 1 3 1).1
theorem pop_ok {b : Jb} (ok : JOK b) (now : Int) : JOK (popJ b now).1 := by
  unfold popJ
  cases hb : b.holds with
  | nil => exact ok
  | cons h T =>
    simp only
    split
    · exact least_ok ok hb
    · exact ok
theorem k0 : JOK j0 := newJ_ok (by decide)
theorem k1 : JOK j1 := push_ok k0 ⟨by decide, by decide⟩ ⟨by decide, by decide⟩
theorem k2 : JOK j2 := pop_ok k1 _
theorem k3 : JOK j3 := push_ok k2 ⟨by decide, by decide⟩ ⟨by decide, by decide⟩
theorem k4 : JOK j4 := pop_ok k3 _
theorem k5 : JOK j5 := push_ok k4 ⟨by decide, by decide⟩ ⟨by decide, by decide⟩
theorem k6 : JOK j6 := pop_ok k5 _
theorem k7 : JOK j7 := push_ok k6 ⟨by decide, by decide⟩ ⟨by decide, by decide⟩
theorem k8 : JOK j8 := push_ok k7 ⟨by decide, by decide⟩ ⟨by decide, by decide⟩
theorem r1 : (pushJ j0 7 0 70).2 = 0 := by decide +kernel
theorem r2 : (popJ j1 0).2 = (7, 70, true) := by decide +kernel
theorem r3 : (pushJ j2 9 1 90).2 = 0 := by decide +kernel
theorem r4 : (popJ j3 2).2 = (0, 0, false) := by decide +kernel
theorem r5 : (pushJ j4 8 3 80).2 = 0 := by decide +kernel
theorem r6 : (popJ j5 3).2 = (8, 80, true) := by decide +kernel
theorem r7 : (pushJ j6 8 3 1).2 = 10 := by decide +kernel
theorem r8 : (pushJ j7 1 3 1).2 = 9 := by decide +kernel
theorem r9 : j6.hi = 8 ∧ j6.begun = true ∧ j6.holds.length = 1 ∧ readyJ j6 3 = true ∧ thJ j8.holds = [90] := by decide +kernel
theorem BStep.mores {w a b : World} {v v' : Value} {b' : Jb} (st : BStep a b w.heap.size v v' b') (m : More w a) (ho : ∀ k, v.ownBlock = some k → w.heap.size ≤ k) : More w b ∧ (∀ k, v'.ownBlock = some k → w.heap.size ≤ k) :=
  ⟨Away.to_more m st.away (fun k hk => hk.elim (fun e => by omega) (ho k)), fun k hk => by
    rcases st.own with e | ⟨g, e, hg⟩
    · exact ho k (by rw [← e]; exact hk)
    · rw [e] at hk; injection hk with hk; have := m.size; omega⟩
set_option maxHeartbeats 8000000 in
theorem awake12 (w : World) :
    Calls Try.prog 52 #[] w fun e w' => e = .returned (.bool true) ∧ More w w' := by
  have NY := Lib.hid (New_yes 3 5 w (by decide))
  have N0 : Num60 0 := ⟨by decide, by decide⟩
  have N1 : Num60 1 := ⟨by decide, by decide⟩
  have N2 : Num60 2 := ⟨by decide, by decide⟩
  have N3 : Num60 3 := ⟨by decide, by decide⟩
  have N7 : Num60 7 := ⟨by decide, by decide⟩
  have N8 : Num60 8 := ⟨by decide, by decide⟩
  have N9 : Num60 9 := ⟨by decide, by decide⟩
  go_enter Try.func52, Try.ntmps52
  go_wp2_with (first | (go_at_call 53; ((with_reducible refine (NY.out).mono ?_); rintro e w1 ⟨rfl, b1, m1, _⟩; have B1 : Hid (BufAt w1 w.heap.size (.slice none 0 0) j0) := Lib.hid b1; have M1 := Lib.hid m1; clear b1 m1)) | (go_at_call 55; ((with_reducible refine (Push_any j0 k0 _ _ 7 0 70 N7 w1 B1.out).mono ?_); rintro e w2 ⟨rfl, v2, s2⟩; rw [r1]; have MO2 := Lib.hid (s2.mores M1.out (fun k hk => by cases hk)); have B2 : Hid (BufAt w2 w.heap.size v2 j1) := Lib.hid s2.buf; clear s2)) | (go_at_call 57; ((with_reducible refine (Pop_any j1 k1 _ _ 0 N0 w2 B2.out).mono ?_); rintro e w3 ⟨rfl, v3, s3⟩; rw [r2]; have MO3 := Lib.hid (s3.mores MO2.out.1 MO2.out.2); have B3 : Hid (BufAt w3 w.heap.size v3 j2) := Lib.hid s3.buf; clear s3)) | (go_at_call 55; ((with_reducible refine (Push_any j2 k2 _ _ 9 1 90 N9 w3 B3.out).mono ?_); rintro e w4 ⟨rfl, v4, s4⟩; rw [r3]; have MO4 := Lib.hid (s4.mores MO3.out.1 MO3.out.2); have B4 : Hid (BufAt w4 w.heap.size v4 j3) := Lib.hid s4.buf; clear s4)) | (go_at_call 57; ((with_reducible refine (Pop_any j3 k3 _ _ 2 N2 w4 B4.out).mono ?_); rintro e w5 ⟨rfl, v5, s5⟩; rw [r4]; have MO5 := Lib.hid (s5.mores MO4.out.1 MO4.out.2); have B5 : Hid (BufAt w5 w.heap.size v5 j4) := Lib.hid s5.buf; clear s5)) | (go_at_call 55; ((with_reducible refine (Push_any j4 k4 _ _ 8 3 80 N8 w5 B5.out).mono ?_); rintro e w6 ⟨rfl, v6, s6⟩; rw [r5]; have MO6 := Lib.hid (s6.mores MO5.out.1 MO5.out.2); have B6 : Hid (BufAt w6 w.heap.size v6 j5) := Lib.hid s6.buf; clear s6)) | (go_at_call 57; ((with_reducible refine (Pop_any j5 k5 _ _ 3 N3 w6 B6.out).mono ?_); rintro e w7 ⟨rfl, v7, s7⟩; rw [r6]; have MO7 := Lib.hid (s7.mores MO6.out.1 MO6.out.2); have B7 : Hid (BufAt w7 w.heap.size v7 j6) := Lib.hid s7.buf; clear s7)) | (go_at_call 113; ((with_reducible refine (Next_any j6 _ _ w7 B7.out k6.hi).mono ?_); rintro e w8 ⟨rfl, rfl⟩; rw [r9.2.1, r9.1])) | (go_at_call 58; ((with_reducible refine (Len_any j6 _ _ w7 B7.out).mono ?_); rintro e w9 ⟨rfl, rfl⟩; rw [r9.2.2.1])) | (go_at_call 56; ((with_reducible refine (Ready_any j6 k6 _ _ 3 N3 w7 B7.out).mono ?_); rintro e w10 ⟨rfl, m10⟩; rw [r9.2.2.2.1]; have B10 := Lib.hid (B7.out.on m10); have M10 := Lib.hid (MO7.out.1.trans m10); clear m10)) | (go_at_call 55; ((with_reducible refine (Push_any j6 k6 _ _ 8 3 1 N8 w10 B10.out).mono ?_); rintro e w11 ⟨rfl, v11, s11⟩; rw [r7]; have MO11 := Lib.hid (s11.mores M10.out MO7.out.2); have B11 : Hid (BufAt w11 w.heap.size v11 j7) := Lib.hid s11.buf; clear s11)) | (go_at_call 55; ((with_reducible refine (Push_any j7 k7 _ _ 1 3 1 N1 w11 B11.out).mono ?_); rintro e w12 ⟨rfl, v12, s12⟩; rw [r8]; have MO12 := Lib.hid (s12.mores MO11.out.1 MO11.out.2); have B12 : Hid (BufAt w12 w.heap.size v12 j8) := Lib.hid s12.buf; clear s12)) | (go_at_call 59; ((with_reducible refine (Drain_any j8 k8 _ _ w12 B12.out).mono ?_); rintro e w13 ⟨vx, rfl, v13, b13, d13, _⟩; rw [r9.2.2.2.2] at d13; have D13 := Lib.hid d13; have M13 := Lib.hid (Away.to_more MO12.out.1 d13.away (fun k hk => hk.elim (fun e => by omega) (MO12.out.2 k))); have S13 := Lib.hid (SlI.of_owns (owns_more d13.row (More.alloc w13 (.cells #[.int .i64 90] 3))) (by simp)); clear d13)) | (go_at_call 114; ((with_reducible refine (SameI_any [90] [90] _ _ _ S13.out (SlI.lit .i64 w13 [90] 3 _ 1 _ rfl rfl rfl (by simp))).mono ?_); rintro e w14 ⟨rfl, k, rfl⟩)))
  go_ret
  exact ⟨rfl, (M13.out.al _).trans (More.drewN _ _)⟩
end Go.Proofs.Ytlnikmcimmnbmaa
