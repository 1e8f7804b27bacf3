/- Package jitter: Ready. -/
import Derived.Test.YtlnikmcimmnbmaaJitF
namespace Go.Proofs.Ytlnikmcimmnbmaa
set_option linter.unusedSimpArgs false
set_option linter.unusedVariables false
open Go.RowKit Go.Lib
set_option maxRecDepth 100000

def waitedJ (b : Jb) (now : Int) (h : Hd) : Bool := decide (b.wait ≤ now - h.2.1)
def readyJ (b : Jb) (now : Int) : Bool := match b.holds with
  | [] => false
  | h :: _ => !b.begun || h.1 == b.hi + 1 || decide (b.room ≤ b.holds.length) || b.holds.any (waitedJ b now)
theorem Waited_any (b : Jb) (R : Nat) (v : Value) (now : Int) (hn : Num60 now) (B3 B2 : Nat) (x : Hd) (hx : Num60 x.2.1) (w : World) (h : BufAt w R v b)
    (hB3 : w.heap[B3]? = some (.cells #[.int .i64 now] 2 (0, 0))) (hB2 : w.heap[B2]? = some (.cells #[.pointer (some ⟨R, 0, none⟩)] 99 (0, 0))) :
    Calls Try.prog 121 #[.agg #[.int .i64 x.1, .int .i64 x.2.1, .int .i64 x.2.2], .pointer (some ⟨B3, 0, none⟩), .pointer (some ⟨B2, 0, none⟩)] w fun e w' => e = .returned (.bool (waitedJ b now x)) ∧ More w w' := by
  obtain ⟨x0, x1, x2⟩ := x
  obtain ⟨h0, h1⟩ := hx
  obtain ⟨n0, n1⟩ := hn
  simp only at h0 h1
  have hb := lt_of_block hB3
  have ma := More.alloc w (.cells #[.int .i64 x0, .int .i64 x1, .int .i64 x2] 193)
  obtain ⟨W, hW⟩ : ∃ W, W = w.alloc (.cells #[.int .i64 x0, .int .i64 x1, .int .i64 x2] 193) := ⟨_, rfl⟩
  have nb : W.heap[w.heap.size]? = some (.cells #[.int .i64 x0, .int .i64 x1, .int .i64 x2] 193 (0, 0)) := by rw [hW]; exact blk_new w _
  rw [← hW] at ma
  have c1 : ∀ x : Later W, x.w'.cell? ⟨R, 1, none⟩ = some (.int .i64 b.wait) := fun x => ((h.on ma).cells x).2.1
  have c3 : ∀ x : Later W, x.w'.cell? ⟨B3, 0, none⟩ = some (.int .i64 now) := fun x => blk_cell (blk_more (ma.trans x.h) hB3) 0 rfl
  have c2 : ∀ x : Later W, x.w'.cell? ⟨B2, 0, none⟩ = some (.pointer (some ⟨R, 0, none⟩)) := fun x => blk_cell (blk_more (ma.trans x.h) hB2) 0 rfl
  have cx : ∀ x : Later W, x.w'.cell? ⟨w.heap.size, 1, none⟩ = some (.int .i64 x1) := fun x => blk_cell (blk_more x.h nb) 1 rfl
  have MA := Lib.hid ma
  clear h hB3 hB2 nb ma
  go_enter Try.func121, Try.ntmps121
  go_wp2_with fail
  rw [← hW]
  clear hW
  generalize w.heap.size = BX at *
  refine wp_region_later W (More.refl _) (by kernel_rfl) (by kernel_rfl) ?_
  repeat (go_big_quiet_step (fail))
  refine wpQuiet_nil ?_
  intro _ hw'
  obtain ⟨x9, rfl⟩ := hw'
  go_wp2
  go_ret
  exact ⟨rfl, MA.out.trans x9.h⟩
set_option maxHeartbeats 2000000 in
theorem Ready_any (b : Jb) (ok : JOK b) (R : Nat) (v : Value) (now : Int) (hn : Num60 now) (w : World) (h : BufAt w R v b) :
    Calls Try.prog 56 #[.pointer (some ⟨R, 0, none⟩), .int .i64 now] w fun e w' => e = .returned (.bool (readyJ b now)) ∧ More w w' := by
  obtain ⟨W, hW⟩ : ∃ W, W = (w.alloc (.cells #[.pointer (some ⟨R, 0, none⟩)] 99)).alloc (.cells #[.int .i64 now] 2) := ⟨_, rfl⟩
  have ma : More w W := by rw [hW]; exact (More.alloc w _).al _
  have b2 : W.heap[w.heap.size]? = some (.cells #[.pointer (some ⟨R, 0, none⟩)] 99 (0, 0)) := by rw [hW]; exact blk_alloc (blk_new w _) _
  have b3 : W.heap[w.heap.size + 1]? = some (.cells #[.int .i64 now] 2 (0, 0)) := by rw [hW]; exact blk_new2 (by simp)
  have H := Lib.hid (h.on ma)
  have c0 : ∀ x : Later W, x.w'.cell? ⟨R, 0, none⟩ = some (.int .i64 b.room) := fun x => (H.out.cells x).1
  have c2 : ∀ x : Later W, x.w'.cell? ⟨R, 2, none⟩ = some v := fun x => (H.out.cells x).2.2.1
  have c2' : W.cell? ⟨R, 2, none⟩ = some v := (H.out.cells ⟨W, More.refl _⟩).2.2.1
  have d2 : ∀ x : Later W, x.w'.cell? ⟨w.heap.size, 0, none⟩ = some (.pointer (some ⟨R, 0, none⟩)) := fun x => blk_cell (blk_more x.h b2) 0 rfl
  have d2' : W.cell? ⟨w.heap.size, 0, none⟩ = some (.pointer (some ⟨R, 0, none⟩)) := blk_cell b2 0 rfl
  have e1 : w.heap.size ≠ R := fun e => by have := lt_of_block h.blk; omega
  have MA := Lib.hid ma
  have HR := Lib.hid H.out.row
  have HL : Hid (Looks 121 #[.pointer (some ⟨w.heap.size + 1, 0, none⟩), .pointer (some ⟨w.heap.size, 0, none⟩)] (waitedJ b now) b.holds W) := Lib.hid fun W' x hx m =>
    Waited_any b R v now hn _ _ x (ok.nums x hx).2 W' (H.out.on m) (blk_more m b3) (blk_more m b2)
  have HNX := Lib.hid (Next_any b R v W H.out ok.hi)
  obtain ⟨oa, cap, rfl, hl63⟩ := H.out.row.shape
  obtain ⟨r0, r1⟩ := ok.room
  have hfit := ok.fits
  obtain ⟨hh0, hh1⟩ := ok.hi
  have HFAL : ∀ (m : Nat), m = b.holds.length → True := fun _ _ => trivial
  clear HFAL
  clear h
  have H0 : Hid (BufAt ((w.alloc (.cells #[.pointer (some ⟨R, 0, none⟩)] 99)).alloc (.cells #[.int .i64 now] 2)) R (.slice oa b.holds.length cap) b) := Lib.hid (hW ▸ H.out)
  have c2a : ((w.alloc (.cells #[.pointer (some ⟨R, 0, none⟩)] 99)).alloc (.cells #[.int .i64 now] 2)).cell? ⟨R, 2, none⟩ = some (.slice oa b.holds.length cap) := hW ▸ c2'
  cases hbh : b.holds with
  | nil =>
    have hE : readyJ b now = false := by unfold readyJ; rw [hbh]
    have HE := Lib.hid hE
    have MB : Hid (More w ((w.alloc (.cells #[.pointer (some ⟨R, 0, none⟩)] 99)).alloc (.cells #[.int .i64 now] 2))) := Lib.hid (hW ▸ MA.out)
    rw [hbh, List.length_nil] at c2a
    clear hE HNX HL HR b2 b3 ma c2 c2' d2 d2' hW
    go_enter Try.func56, Try.ntmps56
    go_wp2
    go_ret
    exact ⟨by rw [HE.out]; rfl, MB.out⟩
  | cons k T =>
    have hlT : b.holds.length = T.length + 1 := by rw [hbh]; rfl
    obtain ⟨g, cap', e, hgb, hgl, hgc⟩ := HR.out.cell 0 (by omega)
    cases e
    have g0 : ∀ x : Later W, x.w'.cell? ⟨g, 0, none⟩ = some (.int .i64 k.1) := fun x => by
      have := (hgc _ x.h).1
      rw [Nat.zero_mul, hbh] at this
      exact this
    have hE : readyJ b now = (!b.begun || k.1 == b.hi + 1 || decide (b.room ≤ b.holds.length) || b.holds.any (waitedJ b now)) := by unfold readyJ; rw [hbh]
    have HE := Lib.hid hE
    have hz : ¬ (b.holds.length : Int) = 0 := by omega
    have hz1 : (0 : Int) < (b.holds.length : Int) := by omega
    clear hE hgc HNX b2 b3 ma d2' c2' hbh hlT hgb
    obtain ⟨N, hN⟩ : ∃ N, b.holds.length = N := ⟨_, rfl⟩
    rw [hN] at c2 c2a HE hz hz1 hl63 hfit H0 HR
    clear hN
    generalize k.1 = K1 at *
    have HLM : Hid (∀ W', More W W' → Looks 121 #[.pointer (some ⟨w.heap.size + 1, 0, none⟩), .pointer (some ⟨w.heap.size, 0, none⟩)] (waitedJ b now) b.holds W') := Lib.hid fun W' m W'' x hx m2 => HL.out W'' x hx (m.trans m2)
    have EG : ∀ args w, (callFunc 121 args).run Try.prog w = .ok (.enter 121 args) w := fun args w => by kernel_rfl
    clear HL
    cases hbg : b.begun with
    | false =>
      have HBG := Lib.hid hbg
      have HE2 : Hid (readyJ b now = true) := Lib.hid (by rw [HE.out, hbg]; rfl)
      clear hbg HE
      
      go_enter Try.func56, Try.ntmps56
      go_wp2_with (go_at_call 113; ((with_reducible refine (Next_any b R _ _ H0.out ⟨hh0, hh1⟩).mono ?_); rintro e w1 ⟨rfl, rfl⟩; rw [HBG.out]))
      rw [← hW]
      clear hW H0 c2a
      generalize w.heap.size = B2 at *
      refine wp_region_later W (More.refl _) (by kernel_rfl) (by kernel_rfl) ?_
      repeat (go_big_quiet_step ((go_at_call 117; with_reducible exact calls_later (ContainsFunc_any _ _ (waitedJ b now) EG b.holds _ (R + 1) _ (HR.out.more (Later.h _)) (HLM.out _ (Later.h _))))))
      refine wpQuiet_nil ?_
      intro _ hw'
      obtain ⟨x9, rfl⟩ := hw'
      go_wp2
      go_ret
      exact ⟨by rw [HE2.out]; rfl, MA.out.trans x9.h⟩
    | true =>
      have HBG := Lib.hid hbg
      have HE1 : Hid (readyJ b now = (K1 == b.hi + 1 || decide (b.room ≤ (N : Int)) || b.holds.any (waitedJ b now))) := Lib.hid (by rw [HE.out, hbg]; rfl)
      clear hbg HE
      cases hk : (K1 == b.hi + 1) with
      | true =>
        have HE2 : Hid (readyJ b now = true) := Lib.hid (by rw [HE1.out, hk]; rfl)
        clear HE1
        
        go_enter Try.func56, Try.ntmps56
        go_wp2_with (go_at_call 113; ((with_reducible refine (Next_any b R _ _ H0.out ⟨hh0, hh1⟩).mono ?_); rintro e w1 ⟨rfl, rfl⟩; rw [HBG.out]))
        rw [← hW]
        clear hW H0 c2a
        generalize w.heap.size = B2 at *
        refine wp_region_later W (More.refl _) (by kernel_rfl) (by kernel_rfl) ?_
        repeat (go_big_quiet_step ((go_at_call 117; with_reducible exact calls_later (ContainsFunc_any _ _ (waitedJ b now) EG b.holds _ (R + 1) _ (HR.out.more (Later.h _)) (HLM.out _ (Later.h _))))))
        refine wpQuiet_nil ?_
        intro _ hw'
        obtain ⟨x9, rfl⟩ := hw'
        go_wp2
        go_ret
        exact ⟨by rw [HE2.out]; rfl, MA.out.trans x9.h⟩
      | false =>
        by_cases hf : b.room ≤ (N : Int)
        · have HE2 : Hid (readyJ b now = true) := Lib.hid (by rw [HE1.out, hk, decide_eq_true hf]; rfl)
          clear HE1
          
          go_enter Try.func56, Try.ntmps56
          go_wp2_with (go_at_call 113; ((with_reducible refine (Next_any b R _ _ H0.out ⟨hh0, hh1⟩).mono ?_); rintro e w1 ⟨rfl, rfl⟩; rw [HBG.out]))
          rw [← hW]
          clear hW H0 c2a
          generalize w.heap.size = B2 at *
          refine wp_region_later W (More.refl _) (by kernel_rfl) (by kernel_rfl) ?_
          repeat (go_big_quiet_step ((go_at_call 117; with_reducible exact calls_later (ContainsFunc_any _ _ (waitedJ b now) EG b.holds _ (R + 1) _ (HR.out.more (Later.h _)) (HLM.out _ (Later.h _))))))
          refine wpQuiet_nil ?_
          intro _ hw'
          obtain ⟨x9, rfl⟩ := hw'
          go_wp2
          go_ret
          exact ⟨by rw [HE2.out]; rfl, MA.out.trans x9.h⟩
        · have HE2 : Hid (readyJ b now = b.holds.any (waitedJ b now)) := Lib.hid (by rw [HE1.out, hk, decide_eq_false hf]; rfl)
          have hd : decide (b.room ≤ (N : Int)) = false := decide_eq_false hf
          clear HE1 hf
          
          go_enter Try.func56, Try.ntmps56
          go_wp2_with (go_at_call 113; ((with_reducible refine (Next_any b R _ _ H0.out ⟨hh0, hh1⟩).mono ?_); rintro e w1 ⟨rfl, rfl⟩; rw [HBG.out]))
          rw [← hW]
          clear hW H0 c2a
          generalize w.heap.size = B2 at *
          refine wp_region_later W (More.refl _) (by kernel_rfl) (by kernel_rfl) ?_
          repeat (go_big_quiet_step ((go_at_call 117; with_reducible exact calls_later (ContainsFunc_any _ _ (waitedJ b now) EG b.holds _ (R + 1) _ (HR.out.more (Later.h _)) (HLM.out _ (Later.h _))))))
          refine wpQuiet_nil ?_
          intro _ hw'
          obtain ⟨x9, rfl⟩ := hw'
          go_wp2
          go_ret
          exact ⟨by rw [HE2.out]; rfl, MA.out.trans x9.h⟩
end Go.Proofs.Ytlnikmcimmnbmaa
