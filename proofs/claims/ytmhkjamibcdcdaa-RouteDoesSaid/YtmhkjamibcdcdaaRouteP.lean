/- The document's table of package route: an act. -/
import Derived.Test.YtmhkjamibcdcdaaRouteM
import Derived.Test.YtmhkjamibcdcdaaRouteN
import Derived.Test.YtmhkjamibcdcdaaRouteO
namespace Go.Proofs.Ytmhkjamibcdcdaa
open Go.RowKit
set_option maxRecDepth 100000

def doR (r : RS) (a : A19) (tk : Bool) : RS × Int := if a.d = 0 then rPub r a.p a.s0 a.s1 a.s2 tk else if a.d = 1 then rJoin r a.x a.own else if a.d = 2 then rLeave r a.x else if a.d = 3 then rSub r a.x a.p else if a.d = 4 then rUnsub r a.x else (r, 0)
set_option maxHeartbeats 2000000 in
theorem ROwn {w : World} {R : Nat} {r : RS} (h : RefAt w R r) (y : A19) (tk : Bool) (ht : tk = true ↔ Taken r y.s0 y.s1 y.s2) :
    Calls Try.prog 38 #[.pointer (some ⟨R, 0, none⟩), .agg #[.int .i64 y.d, .int .i64 y.x, .int .i64 y.p, .int .u32 y.own, .int .u32 y.s0, .int .u32 y.s1, .int .u32 y.s2]] w (RefPost R (doR r y tk) w) := by
  have HX := Lib.hid (h.more (More.alloc w (.cells #[.int .i64 y.d, .int .i64 y.x, .int .i64 y.p, .int .u32 y.own, .int .u32 y.s0, .int .u32 y.s1, .int .u32 y.s2] 88)))
  have HT := Lib.hid ht
  clear h ht
  obtain ⟨d, x, p, own, s0, s1, s2⟩ := y
  simp only at HX HT ⊢
  have hways : d = 0 ∨ d = 1 ∨ d = 2 ∨ d = 3 ∨ d = 4 ∨ (¬ d = 0 ∧ ¬ d = 1 ∧ ¬ d = 2 ∧ ¬ d = 3 ∧ ¬ d = 4) := by omega
  rcases hways with rfl | rfl | rfl | rfl | rfl | ⟨h0, h1, h2, h3, h4⟩
  · have e0 : doR r ⟨0, x, p, own, s0, s1, s2⟩ tk = rPub r p s0 s1 s2 tk := by unfold doR; simp
    have E0 := Lib.hid e0
    clear e0
    go_enter Try.func38, Try.ntmps38
    go_wp2_with (go_at_call 82; ((with_reducible refine (RPublish HX.out p s0 s1 s2 tk HT.out).mono ?_); rintro e w6 ⟨rfl, h6, a6⟩; have H6 := Lib.hid h6; have A6 := Lib.hid a6; clear h6 a6))
    go_ret
    unfold RefPost
    rw [E0.out]
    exact ⟨rfl, H6.out, (Away.of_more (More.alloc _ _)).trans A6.out⟩
  · have e0 : doR r ⟨1, x, p, own, s0, s1, s2⟩ tk = rJoin r x own := by unfold doR; simp
    have E0 := Lib.hid e0
    clear e0
    go_enter Try.func38, Try.ntmps38
    go_wp2_with (go_at_call 83; ((with_reducible refine (RJoin HX.out x own).mono ?_); rintro e w6 ⟨rfl, h6, a6⟩; have H6 := Lib.hid h6; have A6 := Lib.hid a6; clear h6 a6))
    go_ret
    unfold RefPost
    rw [E0.out]
    exact ⟨rfl, H6.out, (Away.of_more (More.alloc _ _)).trans A6.out⟩
  · have e0 : doR r ⟨2, x, p, own, s0, s1, s2⟩ tk = rLeave r x := by unfold doR; simp
    have E0 := Lib.hid e0
    clear e0
    go_enter Try.func38, Try.ntmps38
    go_wp2_with (go_at_call 84; ((with_reducible refine (RLeave HX.out x).mono ?_); rintro e w6 ⟨rfl, h6, a6⟩; have H6 := Lib.hid h6; have A6 := Lib.hid a6; clear h6 a6))
    go_ret
    unfold RefPost
    rw [E0.out]
    exact ⟨rfl, H6.out, (Away.of_more (More.alloc _ _)).trans A6.out⟩
  · have e0 : doR r ⟨3, x, p, own, s0, s1, s2⟩ tk = rSub r x p := by unfold doR; simp
    have E0 := Lib.hid e0
    clear e0
    go_enter Try.func38, Try.ntmps38
    go_wp2_with (go_at_call 85; ((with_reducible refine (RSub HX.out x p).mono ?_); rintro e w6 ⟨rfl, h6, a6⟩; have H6 := Lib.hid h6; have A6 := Lib.hid a6; clear h6 a6))
    go_ret
    unfold RefPost
    rw [E0.out]
    exact ⟨rfl, H6.out, (Away.of_more (More.alloc _ _)).trans A6.out⟩
  · have e0 : doR r ⟨4, x, p, own, s0, s1, s2⟩ tk = rUnsub r x := by unfold doR; simp
    have E0 := Lib.hid e0
    clear e0
    go_enter Try.func38, Try.ntmps38
    go_wp2_with (go_at_call 86; ((with_reducible refine (RUnsub HX.out x).mono ?_); rintro e w6 ⟨rfl, h6, a6⟩; have H6 := Lib.hid h6; have A6 := Lib.hid a6; clear h6 a6))
    go_ret
    unfold RefPost
    rw [E0.out]
    exact ⟨rfl, H6.out, (Away.of_more (More.alloc _ _)).trans A6.out⟩
  · have e0 : doR r ⟨d, x, p, own, s0, s1, s2⟩ tk = (r, 0) := by unfold doR; simp [h0, h1, h2, h3, h4]
    have E0 := Lib.hid e0
    have b0 : (d == 0) = false := by simpa using h0
    have b1 : (d == 1) = false := by simpa using h1
    have b2 : (d == 2) = false := by simpa using h2
    have b3 : (d == 3) = false := by simpa using h3
    have b4 : (d == 4) = false := by simpa using h4
    clear e0 h0 h1 h2 h3 h4
    go_enter Try.func38, Try.ntmps38
    go_wp2
    go_ret
    unfold RefPost
    rw [E0.out]
    exact ⟨rfl, HX.out, Away.of_more (More.alloc _ _)⟩
end Go.Proofs.Ytmhkjamibcdcdaa
