/- Descriptions: contracts of Right, flags, last. -/
import Derived.Test.YtlnikmcimmnbmaaProbeQ
import Derived.Test.YtlnikmcimmnbmaaByteF
namespace Go.Proofs.Ytlnikmcimmnbmaa
set_option linter.unusedSimpArgs false
set_option linter.unusedVariables false
open Go.RowKit
set_option maxRecDepth 100000

def wi (n m : Int) : Bool := decide (-1 ≤ n) && decide (n ≤ m)
theorem Within_any (n m : Int) (w : World) : Calls Try.prog 141 #[.int .i64 n, .int .i64 m] w fun e w' => e = .returned (.bool (wi n m)) ∧ w = w' := by
  have e : wi n m = (decide (-1 ≤ n) && decide (n ≤ m)) := rfl
  rw [e]
  clear e
  by_cases h1 : -1 ≤ n
  · by_cases h2 : n ≤ m
    · go_enter Try.func141, Try.ntmps141
      go_wp2
      go_ret
      simp [h1, h2]
    · go_enter Try.func141, Try.ntmps141
      go_wp2
      go_ret
      simp [h1, h2]
  · go_enter Try.func141, Try.ntmps141
    go_wp2
    go_ret
    simp [h1]
    omega
theorem rightD_wi (d : Ds) : rightD d = (decide (d.pt ≤ 7) && wi d.pic (if d.wd then 32767 else 127) && wi d.bs 255 && wi d.tr 3 && wi d.ky 31 && !(d.wd && decide (d.pic = -1)) && !(d.sy && decide (d.tr = -1))) := rfl
set_option maxHeartbeats 4000000 in
theorem RightD_any (d : Ds) (w : World) :
    Calls Try.prog 97 #[.agg #[.bool d.lo, .bool d.st, .int .u8 d.pt, .int .i64 d.pic, .bool d.wd, .int .i64 d.bs, .int .i64 d.tr, .bool d.sy, .int .i64 d.ky]] w fun e w' => e = .returned (.bool (rightD d)) ∧ More w w' := by
  have hr := rightD_wi d
  obtain ⟨lo, st, pt, pic, wd, bs, tr, sy, ky⟩ := d
  simp only at hr ⊢
  generalize rightD ⟨lo, st, pt, pic, wd, bs, tr, sy, ky⟩ = R at *
  obtain ⟨Q2, hQ2⟩ : ∃ Q2, wi pic 127 = Q2 := ⟨_, rfl⟩
  obtain ⟨P2, hP2⟩ : ∃ P2, wi pic 32767 = P2 := ⟨_, rfl⟩
  obtain ⟨Q3, hQ3⟩ : ∃ Q3, wi bs 255 = Q3 := ⟨_, rfl⟩
  obtain ⟨Q4, hQ4⟩ : ∃ Q4, wi tr 3 = Q4 := ⟨_, rfl⟩
  obtain ⟨Q5, hQ5⟩ : ∃ Q5, wi ky 31 = Q5 := ⟨_, rfl⟩
  have h2 := Lib.hid hQ2
  have h2' := Lib.hid hP2
  have h3 := Lib.hid hQ3
  have h4 := Lib.hid hQ4
  have h5 := Lib.hid hQ5
  rw [hQ3, hQ4, hQ5] at hr
  cases wd with
  | false =>
    rw [if_neg (by simp), hQ2] at hr
    have HR := Lib.hid hr
    clear hr hQ2 hP2 hQ3 hQ4 hQ5
    go_enter Try.func97, Try.ntmps97
    go_wp2_with first | (go_at_call 141; ((with_reducible refine (Within_any pic 127 _).mono ?_); rintro e w2 ⟨rfl, rfl⟩; rw [h2.out])) | (go_at_call 141; ((with_reducible refine (Within_any bs 255 _).mono ?_); rintro e w2 ⟨rfl, rfl⟩; rw [h3.out])) | (go_at_call 141; ((with_reducible refine (Within_any tr 3 _).mono ?_); rintro e w2 ⟨rfl, rfl⟩; rw [h4.out])) | (go_at_call 141; ((with_reducible refine (Within_any ky 31 _).mono ?_); rintro e w2 ⟨rfl, rfl⟩; rw [h5.out]))
    all_goals
      go_ret
      refine ⟨?_, More.alloc _ _⟩
      have hR := HR.out
      clear HR h2 h2' h3 h4 h5
      (by_cases z1 : tr = -1) <;> (by_cases z2 : pic = -1) <;> simp_all <;> (intros; omega)
  | true =>
    rw [if_pos rfl, hP2] at hr
    have HR := Lib.hid hr
    clear hr hQ2 hP2 hQ3 hQ4 hQ5
    go_enter Try.func97, Try.ntmps97
    go_wp2_with first | (go_at_call 141; ((with_reducible refine (Within_any pic 32767 _).mono ?_); rintro e w2 ⟨rfl, rfl⟩; rw [h2'.out])) | (go_at_call 141; ((with_reducible refine (Within_any bs 255 _).mono ?_); rintro e w2 ⟨rfl, rfl⟩; rw [h3.out])) | (go_at_call 141; ((with_reducible refine (Within_any tr 3 _).mono ?_); rintro e w2 ⟨rfl, rfl⟩; rw [h4.out])) | (go_at_call 141; ((with_reducible refine (Within_any ky 31 _).mono ?_); rintro e w2 ⟨rfl, rfl⟩; rw [h5.out]))
    all_goals
      go_ret
      refine ⟨?_, More.alloc _ _⟩
      have hR := HR.out
      clear HR h2 h2' h3 h4 h5
      (by_cases z1 : tr = -1) <;> (by_cases z2 : pic = -1) <;> simp_all <;> (intros; omega)
end Go.Proofs.Ytlnikmcimmnbmaa
