/- Merged from my texts HeadE. -/
import Derived.Test.YtdgmmffedhikcaaMg32
import Derived.Test.YtdgmmffedhikcaaMg1
import Derived.BigQuiet
/- Packets: large, own, Same. -/
namespace Go.Proofs.Ytdgmmffedhikcaa
set_option linter.unusedSimpArgs false
set_option linter.unusedVariables false
open Go.RowKit
set_option maxRecDepth 100000

theorem hd_neq (mr : Bool) (ty sq st sc : Int) (w : World) : (binOp .neq 82 (.agg #[.bool mr, .int .u8 ty, .int .u16 sq, .int .u32 st, .int .u32 sc]) (.agg #[.bool mr, .int .u8 ty, .int .u16 sq, .int .u32 st, .int .u32 sc])).run Try.prog w = .ok (.bool false) w := by
  have h1 : Try.prog.stoodInHeld 82 = false := by kernel_rfl
  rw [run_neq_struct, show (10000 : Nat) = 9999 + 1 from rfl, run_equalIn_agg w 9999 82 _ _ (by kernel_rfl) h1]
  simp [go_sem]
theorem hd_guard : Try.prog.eqGuardType Try.prog.depth 82 = false := by kernel_rfl
def LargeP (p : Pk) (w : World) (e : Ending) (w' : World) : Prop := (∃ Q, e = .returned (.bool Q) ∧ (Q = false → PkSm p)) ∧ More w w'
set_option maxHeartbeats 4000000 in
theorem Same04_eq (p : Pk) (vs ve vp vt vf vm : Value) (w : World) (h : PkS w vs ve vp p) (k : PkS w vt vf vm p) :
    Calls Try.prog 25 #[.agg #[.bool p.mr, .int .u8 p.ty, .int .u16 p.sq, .int .u32 p.st, .int .u32 p.sc, vs, .bool p.has, .int .u16 p.pr, ve, vp], .agg #[.bool p.mr, .int .u8 p.ty, .int .u16 p.sq, .int .u32 p.st, .int .u32 p.sc, vt, .bool p.has, .int .u16 p.pr, vf, vm]] w fun e w' => e = .returned (.bool true) ∧ More w w' := by
  obtain ⟨hs, he, hl⟩ := h
  obtain ⟨ks', ke', kl'⟩ := k
  have HE := Lib.hid he
  have HL := Lib.hid hl
  have KE := Lib.hid ke'
  have KL := Lib.hid kl'
  have HSs := Lib.hid hs
  have KS := Lib.hid ks'
  obtain ⟨os, ks, rfl, h63, -⟩ := hs
  obtain ⟨oe, ke, rfl, -⟩ := he
  obtain ⟨ol, kl, rfl, -⟩ := hl
  obtain ⟨ot, kt, rfl, -⟩ := ks'
  obtain ⟨of, kf, rfl, -⟩ := ke'
  obtain ⟨om, km, rfl, -⟩ := kl'
  obtain ⟨mr, ty, sq, st, sc, ss, has, pr, ex, pl⟩ := p
  simp only at *
  have QN := fun w => hd_neq mr ty sq st sc w
  have EG := hd_guard
  have hm0 := (More.alloc w (.cells #[.bool mr, .int .u8 ty, .int .u16 sq, .int .u32 st, .int .u32 sc, (.slice os ss.length ks), .bool has, .int .u16 pr, (.slice oe ex.length ke), (.slice ol pl.length kl)] 84)).al (.cells #[.bool mr, .int .u8 ty, .int .u16 sq, .int .u32 st, .int .u32 sc, (.slice ot ss.length kt), .bool has, .int .u16 pr, (.slice of ex.length kf), (.slice om pl.length km)] 84)
  have hb1 : ((w.alloc (.cells #[.bool mr, .int .u8 ty, .int .u16 sq, .int .u32 st, .int .u32 sc, (.slice os ss.length ks), .bool has, .int .u16 pr, (.slice oe ex.length ke), (.slice ol pl.length kl)] 84)).alloc (.cells #[.bool mr, .int .u8 ty, .int .u16 sq, .int .u32 st, .int .u32 sc, (.slice ot ss.length kt), .bool has, .int .u16 pr, (.slice of ex.length kf), (.slice om pl.length km)] 84)).heap[w.heap.size]? = some (.cells #[.bool mr, .int .u8 ty, .int .u16 sq, .int .u32 st, .int .u32 sc, (.slice os ss.length ks), .bool has, .int .u16 pr, (.slice oe ex.length ke), (.slice ol pl.length kl)] 84) := blk_alloc (blk_new w _) _
  have hb2 : ((w.alloc (.cells #[.bool mr, .int .u8 ty, .int .u16 sq, .int .u32 st, .int .u32 sc, (.slice os ss.length ks), .bool has, .int .u16 pr, (.slice oe ex.length ke), (.slice ol pl.length kl)] 84)).alloc (.cells #[.bool mr, .int .u8 ty, .int .u16 sq, .int .u32 st, .int .u32 sc, (.slice ot ss.length kt), .bool has, .int .u16 pr, (.slice of ex.length kf), (.slice om pl.length km)] 84)).heap[w.heap.size + 1]? = some (.cells #[.bool mr, .int .u8 ty, .int .u16 sq, .int .u32 st, .int .u32 sc, (.slice ot ss.length kt), .bool has, .int .u16 pr, (.slice of ex.length kf), (.slice om pl.length km)] 84) := blk_new2 (by simp)
  have HM0 := Lib.hid hm0
  have HB1 := Lib.hid hb1
  have HB2 := Lib.hid hb2
  clear hm0 hb1 hb2
  go_enter Try.func25, Try.ntmps25
  go_wp2
  generalize ((w.alloc (.cells #[.bool mr, .int .u8 ty, .int .u16 sq, .int .u32 st, .int .u32 sc, (.slice os ss.length ks), .bool has, .int .u16 pr, (.slice oe ex.length ke), (.slice ol pl.length kl)] 84)).alloc (.cells #[.bool mr, .int .u8 ty, .int .u16 sq, .int .u32 st, .int .u32 sc, (.slice ot ss.length kt), .bool has, .int .u16 pr, (.slice of ex.length kf), (.slice om pl.length km)] 84)) = W2 at *
  go_loopw [5] (fun i wr => ∃ j : Nat, j ≤ ss.length ∧ i = .int .i64 j ∧ More W2 wr) (fun i _ => ss.length - (intOf i).toNat)
  case atStart => exact ⟨0, by omega, rfl, More.refl _⟩
  case round =>
    obtain ⟨j, hj, rfl, hmr⟩ := hrel
    have HMR := Lib.hid hmr
    by_cases hlt : j < ss.length
    · have c1 := blk_cell (blk_more hmr HB1.out) 5 (v := .slice os ss.length ks) rfl
      have c2 := blk_cell (blk_more hmr HB2.out) 5 (v := .slice ot ss.length kt) rfl
      obtain ⟨_, _, ev1, -, el1, -⟩ := (HSs.out.keep HM0.out).keep hmr
      obtain ⟨_, _, ev2, -, el2, -⟩ := (KS.out.keep HM0.out).keep hmr
      cases ev1
      cases ev2
      obtain ⟨b1, off1, rfl, hw1, d1⟩ := el1 j hlt
      obtain ⟨b2, off2, rfl, hw2, d2⟩ := el2 j hlt
      generalize ss.getD j 0 = x at *
      have hxb : (x != x) = false := by simp
      have hjl : (j : Int) < (ss.length : Int) := by omega
      have hj0 : (0 : Int) ≤ (j : Int) := by omega
      clear el1 el2 hmr
      have n1 : w.heap.size < wr.heap.size := Nat.lt_of_lt_of_le (blk_lt HB1.out) HMR.out.size
      have n2 : w.heap.size + 1 < wr.heap.size := Nat.lt_of_lt_of_le (blk_lt HB2.out) HMR.out.size
      have C1 : ∀ x : Later wr, x.w'.cell? ⟨w.heap.size, 5, none⟩ = some (.slice (some ⟨b1, off1, none⟩) ss.length ks) := fun x => x.cell n1 c1
      have C2 : ∀ x : Later wr, x.w'.cell? ⟨w.heap.size + 1, 5, none⟩ = some (.slice (some ⟨b2, off2, none⟩) ss.length kt) := fun x => x.cell n2 c2
      have D1 : ∀ y : Later wr, y.w'.cell? ⟨b1, off1 + j, none⟩ = some (.int .u32 x) := fun y => y.cell hw1 d1
      have D2 : ∀ y : Later wr, y.w'.cell? ⟨b2, off2 + j, none⟩ = some (.int .u32 x) := fun y => y.cell hw2 d2
      go_wp2_with fail
      refine wp_region_later _ (More.refl _) (by kernel_rfl) (by kernel_rfl) ?_
      repeat (go_big_quiet_step (fail))
      refine wpQuiet_nil ?_
      intro _ hw'
      obtain ⟨x9, rfl⟩ := hw'
      go_wp2
      go_roundw
      case rel => exact ⟨j + 1, by omega, by go_num, HMR.out.trans x9.h⟩
      case measure => simp [intOf]; omega
    · obtain rfl : j = ss.length := by omega
      have B1 := Lib.hid (blk_more hmr HB1.out)
      have B2 := Lib.hid (blk_more hmr HB2.out)
      have c5 := blk_cell B1.out 5 (v := .slice os ss.length ks) rfl
      have c8 := blk_cell B1.out 8 (v := .slice oe ex.length ke) rfl
      have d8 := blk_cell B2.out 8 (v := .slice of ex.length kf) rfl
      have SE := Lib.hid ((HE.out.keep HM0.out).keep hmr)
      have SF := Lib.hid ((KE.out.keep HM0.out).keep hmr)
      have SL := Lib.hid ((HL.out.keep HM0.out).keep hmr)
      have SM := Lib.hid ((KL.out.keep HM0.out).keep hmr)
      have MF := Lib.hid (HM0.out.trans hmr)
      clear hmr
      go_wp2_with (first | (go_at_call 28; ((with_reducible refine (Same_any ex ex _ _ _ SE.out SF.out).mono ?_); rintro e w5 ⟨rfl, k5, rfl⟩; rw [decide_eq_true (rfl : ex = ex)]; have c9 := blk_cell (blk_drewN B1.out k5) 9 (v := .slice ol pl.length kl) rfl; have d9 := blk_cell (blk_drewN B2.out k5) 9 (v := .slice om pl.length km) rfl; have M5 := Lib.hid (MF.out.dr k5); have SL5 := Lib.hid (SL.out.keep (More.drewN _ k5)); have SM5 := Lib.hid (SM.out.keep (More.drewN _ k5)))) | (go_at_call 28; ((with_reducible refine (Same_any pl pl _ _ _ SL5.out SM5.out).mono ?_); rintro e w6 ⟨rfl, k6, rfl⟩; rw [decide_eq_true (rfl : pl = pl)]; have M6 := Lib.hid (M5.out.dr k6))))
      go_ret
      exact ⟨rfl, by have := M6.out; simpa using this⟩
end Go.Proofs.Ytdgmmffedhikcaa
