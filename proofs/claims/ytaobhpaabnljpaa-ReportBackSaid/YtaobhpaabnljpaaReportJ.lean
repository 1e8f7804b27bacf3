/- The law ReportBack. -/
import Derived.Test.YtaobhpaabnljpaaReportIa0b0
import Derived.Test.YtaobhpaabnljpaaReportIa0b1
import Derived.Test.YtaobhpaabnljpaaReportIa0b2
import Derived.Test.YtaobhpaabnljpaaReportIa1b0
import Derived.Test.YtaobhpaabnljpaaReportIa1b1
import Derived.Test.YtaobhpaabnljpaaReportIa1b2
import Derived.Test.YtaobhpaabnljpaaReportK
namespace Go.Proofs.Ytaobhpaabnljpaa
open Go.RowKit
set_option maxRecDepth 100000

theorem ReportBack_law (c1 : Array Value) (r : Rep) (c2 : Array Value) (s : Rep) (c3 : Array Value) (c : Chunk) (w : World) (hr : RRep w c1.toList r) (hs : RRep w c2.toList s) (hc : RChunk w c3.toList c) (h3 : c3.size = 3) :
    Calls Try.prog 10 #[.agg c1, .agg c2, .agg c3] w fun e w' => e = .returned (.bool true) ∧ More w w' := by
  obtain ⟨o1, k1, rfl, sr, okr⟩ := rep_cells hr
  obtain ⟨o2, k2, rfl, ss, oks⟩ := rep_cells hs
  obtain ⟨o3, k3, rfl, sc, okc⟩ := chunk_cells hc h3
  clear hr hs hc h3
  have SR := Lib.hid sr
  have SS := Lib.hid ss
  have SC := Lib.hid sc
  clear sr ss sc
  by_cases hl1 : (40 : Int) < (r.bl.length : Int)
  · go_enter Try.func10, Try.ntmps10
    go_wp2_with (go_at_call 46; refine (awake08 _).mono ?_; rintro e w1 ⟨rfl, m1⟩; have X1 := (Box3.new w _ _ _ _ _ _).on m1; have a7 := blk_cell X1.r 7 (v := .slice o1 r.bl.length k1) rfl)
    go_ret
    exact ⟨rfl, X1.more⟩
  by_cases hl2 : (40 : Int) < (s.bl.length : Int)
  · go_enter Try.func10, Try.ntmps10
    go_wp2_with (go_at_call 46; refine (awake08 _).mono ?_; rintro e w1 ⟨rfl, m1⟩; have X1 := (Box3.new w _ _ _ _ _ _).on m1; have a7 := blk_cell X1.r 7 (v := .slice o1 r.bl.length k1) rfl; have b7 := blk_cell X1.s 7 (v := .slice o2 s.bl.length k2) rfl)
    go_ret
    exact ⟨rfl, X1.more⟩
  by_cases hl3 : (400 : Int) < (c.2.2.1.length : Int)
  · go_enter Try.func10, Try.ntmps10
    go_wp2_with (go_at_call 46; refine (awake08 _).mono ?_; rintro e w1 ⟨rfl, m1⟩; have X1 := (Box3.new w _ _ _ _ _ _).on m1; have a7 := blk_cell X1.r 7 (v := .slice o1 r.bl.length k1) rfl; have b7 := blk_cell X1.s 7 (v := .slice o2 s.bl.length k2) rfl; have e2 := blk_cell X1.c 2 (v := .slice o3 c.2.2.1.length k3) rfl)
    go_ret
    exact ⟨rfl, X1.more⟩
  have hr40 : r.bl.length ≤ 100000 := by omega
  have hs40 : s.bl.length ≤ 100000 := by omega
  have hc4 : c.2.2.1.length ≤ 1000000 := by omega
  have hA : (∃ t et, readR c = (t, et) ∧ (et == 0) = false) ∨ (∃ t, readR c = (t, 0) ∧ writeR t = (c, 0) ∧ RepOK t) := by
    cases ht : readR c with
    | mk t et =>
      by_cases he : et = 0
      · subst he
        obtain ⟨h1, h2, _⟩ := writeR_readR okc ht
        exact Or.inr ⟨t, rfl, h1, h2⟩
      · exact Or.inl ⟨t, et, rfl, by simpa using he⟩
  have hw : ∀ x : Rep, rightR x = true → writeR x = ((writeR x).1, 0) := fun x h => by rw [writeR_yes h]
  have hD := fun h : rightR r = true => readR_writeR okr h
  cases hR : rightR r with
  | false =>
    have hW := writeR_no hR
    rcases hA with ⟨t, et, g1, g2⟩ | ⟨t, g1, g2, g3⟩
    · exact ReportBack_a0b0 o1 k1 o2 k2 o3 k3 r s c SR SS SC okr oks okc hl1 hl2 hl3 hr40 hs40 hc4 t et (Lib.hid g1) g2 (Lib.hid hW) (Lib.hid hR)
    · exact ReportBack_a1b0 o1 k1 o2 k2 o3 k3 r s c SR SS SC okr oks okc hl1 hl2 hl3 hr40 hs40 hc4 t (Lib.hid g1) (Lib.hid g2) g3 (Lib.hid hW) (Lib.hid hR)
  | true =>
    have okD := writeR_ok okr
    cases hS : rightR s with
    | false =>
      have hSW := writeR_no hS
      rcases hA with ⟨t, et, g1, g2⟩ | ⟨t, g1, g2, g3⟩
      · exact ReportBack_a0b1 o1 k1 o2 k2 o3 k3 r s c SR SS SC okr oks okc hl1 hl2 hl3 hr40 hs40 hc4 t et (Lib.hid g1) g2 (writeR r).1 (Lib.hid (hw r hR)) (Lib.hid (hD hR)) okD writeR_small (Lib.hid hR) (Lib.hid (writeR_right hR)) (Lib.hid hSW)
      · exact ReportBack_a1b1 o1 k1 o2 k2 o3 k3 r s c SR SS SC okr oks okc hl1 hl2 hl3 hr40 hs40 hc4 t (Lib.hid g1) (Lib.hid g2) g3 (writeR r).1 (Lib.hid (hw r hR)) (Lib.hid (hD hR)) okD writeR_small (Lib.hid hR) (Lib.hid (writeR_right hR)) (Lib.hid hSW)
    | true =>
      have okK := writeR_ok oks
      have hq : decide ((writeR r).1 = (writeR s).1) = decide (r = s) := by simp only [writeR_inj okr oks hR hS]
      rcases hA with ⟨t, et, g1, g2⟩ | ⟨t, g1, g2, g3⟩
      · exact ReportBack_a0b2 o1 k1 o2 k2 o3 k3 r s c SR SS SC okr oks okc hl1 hl2 hl3 hr40 hs40 hc4 t et (Lib.hid g1) g2 (writeR r).1 (writeR s).1 (decide (r = s)) (Lib.hid (hw r hR)) (Lib.hid (hD hR)) okD writeR_small (Lib.hid hR) (Lib.hid (writeR_right hR)) (Lib.hid (hw s hS)) okK (Lib.hid hq) (Lib.hid rfl)
      · exact ReportBack_a1b2 o1 k1 o2 k2 o3 k3 r s c SR SS SC okr oks okc hl1 hl2 hl3 hr40 hs40 hc4 t (Lib.hid g1) (Lib.hid g2) g3 (writeR r).1 (writeR s).1 (decide (r = s)) (Lib.hid (hw r hR)) (Lib.hid (hD hR)) okD writeR_small (Lib.hid hR) (Lib.hid (writeR_right hR)) (Lib.hid (hw s hS)) okK (Lib.hid hq) (Lib.hid rfl)
end Go.Proofs.Ytaobhpaabnljpaa
