/- Merged from my texts HeadE, LanePt. -/
import Derived.Test.YtdgmmffedhikcaaMg31
import Derived.Test.YtdgmmffedhikcaaMg1
import Derived.BigQuiet
import Derived.Test.YtdgmmffedhikcaaMg30
/- Packets: large, own, Same. -/
namespace Go.Proofs.Ytdgmmffedhikcaa
set_option linter.unusedSimpArgs false
set_option linter.unusedVariables false
open Go.RowKit
set_option maxRecDepth 100000

theorem hd_neq (mr : Bool) (ty sq st sc : Int) (w : World) : (binOp .neq 82 (.agg #[.bool mr, .int .u8 ty, .int .u16 sq, .int .u32 st, .int .u32 sc]) (.agg #[.bool mr, .int .u8 ty, .int .u16 sq, .int .u32 st, .int .u32 sc])).run Try.prog w = .ok (.bool false) w := by
  have h1 : Try.prog.stoodInHeld 82 = false := by kernel_rfl
  rw [run_neq_struct, show (10000 : Nat) = 9999 + 1 from rfl, run_equalIn_agg w 9999 82 _ _ (by kernel_rfl) h1]
  simp [go_sem]
theorem hd_guard : Try.prog.eqGuardType Try.prog.depth 82 = false := by kernel_rfl
def LargeP (p : Pk) (w : World) (e : Ending) (w' : World) : Prop := (∃ Q, e = .returned (.bool Q) ∧ (Q = false → PkSm p)) ∧ More w w'
set_option maxHeartbeats 4000000 in
theorem Same04_eq (p : Pk) (vs ve vp vt vf vm : Value) (w : World) (h : PkS w vs ve vp p) (k : PkS w vt vf vm p) :
    Calls Try.prog 25 #[.agg #[.bool p.mr, .int .u8 p.ty, .int .u16 p.sq, .int .u32 p.st, .int .u32 p.sc, vs, .bool p.has, .int .u16 p.pr, ve, vp], .agg #[.bool p.mr, .int .u8 p.ty, .int .u16 p.sq, .int .u32 p.st, .int .u32 p.sc, vt, .bool p.has, .int .u16 p.pr, vf, vm]] w fun e w' => e = .returned (.bool true) ∧ More w w' := by
  obtain ⟨hs, he, hl⟩ := h
  obtain ⟨ks', ke', kl'⟩ := k
  have HE := Lib.hid he
  have HL := Lib.hid hl
  have KE := Lib.hid ke'
  have KL := Lib.hid kl'
  have HSs := Lib.hid hs
  have KS := Lib.hid ks'
  obtain ⟨os, ks, rfl, h63, -⟩ := hs
  obtain ⟨oe, ke, rfl, -⟩ := he
  obtain ⟨ol, kl, rfl, -⟩ := hl
  obtain ⟨ot, kt, rfl, -⟩ := ks'
  obtain ⟨of, kf, rfl, -⟩ := ke'
  obtain ⟨om, km, rfl, -⟩ := kl'
  obtain ⟨mr, ty, sq, st, sc, ss, has, pr, ex, pl⟩ := p
  simp only at *
  have QN := fun w => hd_neq mr ty sq st sc w
  have EG := hd_guard
  have hm0 := (More.alloc w (.cells #[.bool mr, .int .u8 ty, .int .u16 sq, .int .u32 st, .int .u32 sc, (.slice os ss.length ks), .bool has, .int .u16 pr, (.slice oe ex.length ke), (.slice ol pl.length kl)] 84)).al (.cells #[.bool mr, .int .u8 ty, .int .u16 sq, .int .u32 st, .int .u32 sc, (.slice ot ss.length kt), .bool has, .int .u16 pr, (.slice of ex.length kf), (.slice om pl.length km)] 84)
  have hb1 : ((w.alloc (.cells #[.bool mr, .int .u8 ty, .int .u16 sq, .int .u32 st, .int .u32 sc, (.slice os ss.length ks), .bool has, .int .u16 pr, (.slice oe ex.length ke), (.slice ol pl.length kl)] 84)).alloc (.cells #[.bool mr, .int .u8 ty, .int .u16 sq, .int .u32 st, .int .u32 sc, (.slice ot ss.length kt), .bool has, .int .u16 pr, (.slice of ex.length kf), (.slice om pl.length km)] 84)).heap[w.heap.size]? = some (.cells #[.bool mr, .int .u8 ty, .int .u16 sq, .int .u32 st, .int .u32 sc, (.slice os ss.length ks), .bool has, .int .u16 pr, (.slice oe ex.length ke), (.slice ol pl.length kl)] 84) := blk_alloc (blk_new w _) _
  have hb2 : ((w.alloc (.cells #[.bool mr, .int .u8 ty, .int .u16 sq, .int .u32 st, .int .u32 sc, (.slice os ss.length ks), .bool has, .int .u16 pr, (.slice oe ex.length ke), (.slice ol pl.length kl)] 84)).alloc (.cells #[.bool mr, .int .u8 ty, .int .u16 sq, .int .u32 st, .int .u32 sc, (.slice ot ss.length kt), .bool has, .int .u16 pr, (.slice of ex.length kf), (.slice om pl.length km)] 84)).heap[w.heap.size + 1]? = some (.cells #[.bool mr, .int .u8 ty, .int .u16 sq, .int .u32 st, .int .u32 sc, (.slice ot ss.length kt), .bool has, .int .u16 pr, (.slice of ex.length kf), (.slice om pl.length km)] 84) := blk_new2 (by simp)
  have HM0 := Lib.hid hm0
  have HB1 := Lib.hid hb1
  have HB2 := Lib.hid hb2
  clear hm0 hb1 hb2
  go_enter Try.func25, Try.ntmps25
  go_wp2
  generalize ((w.alloc (.cells #[.bool mr, .int .u8 ty, .int .u16 sq, .int .u32 st, .int .u32 sc, (.slice os ss.length ks), .bool has, .int .u16 pr, (.slice oe ex.length ke), (.slice ol pl.length kl)] 84)).alloc (.cells #[.bool mr, .int .u8 ty, .int .u16 sq, .int .u32 st, .int .u32 sc, (.slice ot ss.length kt), .bool has, .int .u16 pr, (.slice of ex.length kf), (.slice om pl.length km)] 84)) = W2 at *
  go_loopw [5] (fun i wr => ∃ j : Nat, j ≤ ss.length ∧ i = .int .i64 j ∧ More W2 wr) (fun i _ => ss.length - (intOf i).toNat)
  case atStart => exact ⟨0, by omega, rfl, More.refl _⟩
  case round =>
    obtain ⟨j, hj, rfl, hmr⟩ := hrel
    have HMR := Lib.hid hmr
    by_cases hlt : j < ss.length
    · have c1 := blk_cell (blk_more hmr HB1.out) 5 (v := .slice os ss.length ks) rfl
      have c2 := blk_cell (blk_more hmr HB2.out) 5 (v := .slice ot ss.length kt) rfl
      obtain ⟨_, _, ev1, -, el1, -⟩ := (HSs.out.keep HM0.out).keep hmr
      obtain ⟨_, _, ev2, -, el2, -⟩ := (KS.out.keep HM0.out).keep hmr
      cases ev1
      cases ev2
      obtain ⟨b1, off1, rfl, hw1, d1⟩ := el1 j hlt
      obtain ⟨b2, off2, rfl, hw2, d2⟩ := el2 j hlt
      generalize ss.getD j 0 = x at *
      have hxb : (x != x) = false := by simp
      have hjl : (j : Int) < (ss.length : Int) := by omega
      have hj0 : (0 : Int) ≤ (j : Int) := by omega
      clear el1 el2 hmr
      have n1 : w.heap.size < wr.heap.size := Nat.lt_of_lt_of_le (blk_lt HB1.out) HMR.out.size
      have n2 : w.heap.size + 1 < wr.heap.size := Nat.lt_of_lt_of_le (blk_lt HB2.out) HMR.out.size
      have C1 : ∀ x : Later wr, x.w'.cell? ⟨w.heap.size, 5, none⟩ = some (.slice (some ⟨b1, off1, none⟩) ss.length ks) := fun x => x.cell n1 c1
      have C2 : ∀ x : Later wr, x.w'.cell? ⟨w.heap.size + 1, 5, none⟩ = some (.slice (some ⟨b2, off2, none⟩) ss.length kt) := fun x => x.cell n2 c2
      have D1 : ∀ y : Later wr, y.w'.cell? ⟨b1, off1 + j, none⟩ = some (.int .u32 x) := fun y => y.cell hw1 d1
      have D2 : ∀ y : Later wr, y.w'.cell? ⟨b2, off2 + j, none⟩ = some (.int .u32 x) := fun y => y.cell hw2 d2
      go_wp2_with fail
      refine wp_region_later _ (More.refl _) (by kernel_rfl) (by kernel_rfl) ?_
      repeat (go_big_quiet_step (fail))
      refine wpQuiet_nil ?_
      intro _ hw'
      obtain ⟨x9, rfl⟩ := hw'
      go_wp2
      go_roundw
      case rel => exact ⟨j + 1, by omega, by go_num, HMR.out.trans x9.h⟩
      case measure => simp [intOf]; omega
    · obtain rfl : j = ss.length := by omega
      have B1 := Lib.hid (blk_more hmr HB1.out)
      have B2 := Lib.hid (blk_more hmr HB2.out)
      have c5 := blk_cell B1.out 5 (v := .slice os ss.length ks) rfl
      have c8 := blk_cell B1.out 8 (v := .slice oe ex.length ke) rfl
      have d8 := blk_cell B2.out 8 (v := .slice of ex.length kf) rfl
      have SE := Lib.hid ((HE.out.keep HM0.out).keep hmr)
      have SF := Lib.hid ((KE.out.keep HM0.out).keep hmr)
      have SL := Lib.hid ((HL.out.keep HM0.out).keep hmr)
      have SM := Lib.hid ((KL.out.keep HM0.out).keep hmr)
      have MF := Lib.hid (HM0.out.trans hmr)
      clear hmr
      go_wp2_with (first | (go_at_call 28; ((with_reducible refine (Same_any ex ex _ _ _ SE.out SF.out).mono ?_); rintro e w5 ⟨rfl, k5, rfl⟩; rw [decide_eq_true (rfl : ex = ex)]; have c9 := blk_cell (blk_drewN B1.out k5) 9 (v := .slice ol pl.length kl) rfl; have d9 := blk_cell (blk_drewN B2.out k5) 9 (v := .slice om pl.length km) rfl; have M5 := Lib.hid (MF.out.dr k5); have SL5 := Lib.hid (SL.out.keep (More.drewN _ k5)); have SM5 := Lib.hid (SM.out.keep (More.drewN _ k5)))) | (go_at_call 28; ((with_reducible refine (Same_any pl pl _ _ _ SL5.out SM5.out).mono ?_); rintro e w6 ⟨rfl, k6, rfl⟩; rw [decide_eq_true (rfl : pl = pl)]; have M6 := Lib.hid (M5.out.dr k6))))
      go_ret
      exact ⟨rfl, by have := M6.out; simpa using this⟩
end Go.Proofs.Ytdgmmffedhikcaa
/- What was put, in a row of the law's own; plain: where what is queued stands there. -/
namespace Go.Proofs.Ytdgmmffedhikcaa
set_option linter.unusedSimpArgs false
set_option linter.unusedVariables false
open Go.RowKit
set_option maxRecDepth 100000

/-- An item as it came in: its slices were there ahead. -/
def RPt (w0 : World) : Reader ItS := fun _ cs x => ∃ os oe ol ks ke kl, cs = itC x (.slice os x.pk.ss.length ks) (.slice oe x.pk.ex.length ke) (.slice ol x.pk.pl.length kl) ∧ PkS w0 (.slice os x.pk.ss.length ks) (.slice oe x.pk.ex.length ke) (.slice ol x.pk.pl.length kl) x.pk ∧ PkOK x.pk ∧ PkSm x.pk
theorem RPt.off {w0 w w2 : World} {D : Nat → Prop} {cs : List Value} {x : ItS} (h : RPt w0 w cs x) : RdOff (RPt w0) D w2 cs x := fun _ _ => h
theorem takeP_cases (cu tg ly : Int) (ky : Bool) : (ly = cu ∧ takeP cu tg ly ky = (cu, 0, false)) ∨ (ly ≠ cu ∧ ly = tg ∧ ky = true ∧ takeP cu tg ly ky = (ly, 0, true)) ∨ (ly ≠ cu ∧ ly = tg ∧ ky = false ∧ takeP cu tg ly ky = (cu, 5, false)) ∨ (ly ≠ cu ∧ ly ≠ tg ∧ takeP cu tg ly ky = (cu, 4, false)) := by
  unfold takeP
  by_cases h1 : ly = cu
  · exact Or.inl ⟨h1, by rw [if_pos h1]⟩
  · by_cases h2 : ly = tg
    · cases ky with
      | true => exact Or.inr (Or.inl ⟨h1, h2, rfl, by rw [if_neg h1, if_pos h2]; rfl⟩)
      | false => exact Or.inr (Or.inr (Or.inl ⟨h1, h2, rfl, by rw [if_neg h1, if_pos h2]; rfl⟩))
    · exact Or.inr (Or.inr (Or.inr ⟨h1, h2, by rw [if_neg h1, if_neg h2]⟩))
def it0 : ItS := ⟨0, 0, false, pk00⟩
theorem rowOwn_stay {w w' : World} {base e n m : Nat} {v : Value} {xs : List Value} (h : w.ownsRow base e n v m xs) (hs : ∀ b, v.ownBlock = some b → w'.heap[b]? = w.heap[b]?) : w'.ownsRow base e n v m xs := by
  obtain ⟨h1, h2⟩ := h
  refine ⟨h1, ?_⟩
  rcases h2 with h | ⟨b, cap, cur, e1, hb, hg, rest⟩
  · exact Or.inl h
  · exact Or.inr ⟨b, cap, cur, e1, hb, (hs b (by rw [e1]; rfl)).trans hg, rest⟩
/-- The row of what was put; F: the law's own blocks. -/
structure PutAt (w0 w : World) (v : Value) (P : List ItS) (F : List Nat) : Prop where
  row : RowP 13 (RPt w0) (fun _ => False) w w0.heap.size 41 v P
  own : ∀ b, v.ownBlock = some b → b ∈ F
section
variable {w0 w w' : World} {L : Nat} {s : LnS} {F : List Nat} {v v' : Value} {P : List ItS}
theorem PutAt.nil (w0 w : World) (F : List Nat) : PutAt w0 w (.slice none 0 0) [] F := ⟨RowP.nil 13 _ _ w _ _, fun b h => by cases h⟩
theorem PutAt.same (h : PutAt w0 w v P F) (hs : ∀ b ∈ F, w'.heap[b]? = w.heap[b]?) : PutAt w0 w' v P F := by
  obtain ⟨⟨⟨xs, o, r⟩, ap⟩, hF⟩ := h
  exact ⟨⟨⟨xs, rowOwn_stay o (fun b hb => hs b (hF b hb)), fun i hi _ _ => r i hi w (Away.refl _ _)⟩, ap⟩, hF⟩
theorem PutAt.stay (h : PutAt w0 w v P F) (hs : Stay F w w') : PutAt w0 w' v P F := h.same hs.2
theorem PutAt.more (h : PutAt w0 w v P F) (m : More w w') : PutAt w0 w' v P F := ⟨h.row.on m, h.own⟩
theorem PutAt.grow {F' : List Nat} (h : PutAt w0 w v P F) (hF : ∀ b ∈ F, b ∈ F') : PutAt w0 w v P F' := ⟨h.row, fun b hb => hF b (h.own b hb)⟩
theorem PutAt.shape (h : PutAt w0 w v P F) : ∃ oa cap, v = .slice oa P.length cap := by
  obtain ⟨oa, m, cap, e, hm, _⟩ := h.row.shape
  exact ⟨oa, cap, by rw [e, hm]⟩
/-- The i-th one. -/
theorem PutAt.get (h : PutAt w0 w v P F) (i : Nat) (hi : i < P.length) : ∃ g cap os oe ol ks ke kl, v = .slice (some ⟨g, 0, none⟩) P.length cap ∧ g < w.heap.size ∧
    w.rangeAt g (i * 13) (itC (P.getD i it0) (.slice os (P.getD i it0).pk.ss.length ks) (.slice oe (P.getD i it0).pk.ex.length ke) (.slice ol (P.getD i it0).pk.pl.length kl)) ∧
    PkS w0 (.slice os (P.getD i it0).pk.ss.length ks) (.slice oe (P.getD i it0).pk.ex.length ke) (.slice ol (P.getD i it0).pk.pl.length kl) (P.getD i it0).pk ∧ PkOK (P.getD i it0).pk ∧ PkSm (P.getD i it0).pk := by
  obtain ⟨⟨⟨xs, o, r⟩, _⟩, _⟩ := h
  have eg : P.getD i it0 = P[i] := by simp [hi]
  rw [eg]
  obtain ⟨os, oe, ol, ks, ke, kl, e, hs, hk, hm⟩ := r i hi w (Away.refl _ _)
  rcases o.2 with ⟨_, h0⟩ | ⟨g, cap, cur, rfl, hb, hg, hrest⟩
  · omega
  · refine ⟨g, cap, os, oe, ol, ks, ke, kl, rfl, lt_of_block hg, fun j u hu => ?_, hs, hk, hm⟩
    have hj : j < 13 := (List.getElem?_eq_some_iff.1 hu).1
    have hin : i * 13 + 13 ≤ P.length * 13 := by omega
    rw [o.cellAt _ (by omega), ← hu, ← e, List.getElem?_take, if_pos hj, List.getElem?_drop]
/-- What a law's own row grows by. -/
theorem LnH.grown (h : LnH w0 w L s F) (hv : ∀ b, v.ownBlock = some b → b ∈ F) (hg : w.grownBy w' v.ownBlock) (hb : v'.ownBlock = v.ownBlock ∨ v'.ownBlock = some w.heap.size) (hlt : ∀ b, v'.ownBlock = some b → b < w'.heap.size) :
    ∃ F', LnH w0 w' L s F' ∧ (∀ b, v'.ownBlock = some b → b ∈ F') ∧ ∀ b ∈ F, b ∈ F' := by
  have a : Away (fun b => b ∈ F) w w' := (Away.of_grown hg).mono fun b hb => hv b hb
  rcases hb with e | e
  · exact ⟨F, h.mut a, fun b hb => hv b (by rw [← e]; exact hb), fun _ h => h⟩
  · refine ⟨w.heap.size :: F, ?_, fun b hb => ?_, fun b hb => List.mem_cons_of_mem _ hb⟩
    · have hm := h.mut a
      obtain ⟨N, l, h1, h2, h3⟩ := h
      refine ⟨N, l.away a (fun b hb => (h2 b hb).1), h1, fun c hc => ?_, a.to_more h3 (fun b hb => (h2 b hb).2.1)⟩
      rcases List.mem_cons.1 hc with rfl | hc
      · exact ⟨fun e => by have := l.sub _ e; omega, h3.size, hlt _ e⟩
      · exact ⟨(h2 c hc).1, (h2 c hc).2.1, Nat.lt_of_lt_of_le (h2 c hc).2.2 a.size⟩
    · rw [e] at hb
      injection hb with hb
      subst hb
      exact List.mem_cons_self
end

/-! Plain: what is queued is what was put. -/
def isPut (P : List ItS) (x : ItS) : Prop := ∃ i : Nat, i < P.length ∧ x = { P.getD i it0 with id := (i : Int) }
theorem isPut.app {P : List ItS} {x : ItS} (h : isPut P x) (y : ItS) : isPut (P ++ [y]) x := by
  obtain ⟨i, hi, e⟩ := h
  refine ⟨i, by simp; omega, ?_⟩
  rw [e, List.getD_eq_getElem?_getD, List.getD_eq_getElem?_getD, List.getElem?_append_left hi]
theorem isPut.new (P : List ItS) (y : ItS) : isPut (P ++ [y]) { y with id := (P.length : Int) } :=
  ⟨P.length, by simp, by rw [List.getD_eq_getElem?_getD, List.getElem?_append_right (Nat.le_refl _)]; simp⟩
structure PInv (s : LnS) (P : List ItS) : Prop where
  a : ∀ x ∈ s.A, isPut P x
  b : ∀ y ∈ s.B, isPut P y.1
  w : s.A ≠ [] → s.wanted = true
theorem mem_tail {α : Type} {l : List α} {x : α} (h : x ∈ l.tail) : x ∈ l := List.mem_of_mem_tail h
section
variable {s : LnS} {P : List ItS}
theorem PInv.choose (h : PInv s P) : PInv (chooseP s).1 P := by
  rcases chooseP_eq s with ⟨_, e⟩ | ⟨_, x, A, eA, _, e⟩
  · rw [e]; exact h
  · rw [e]
    have hx := h.a x (by rw [eA]; simp)
    refine ⟨fun y hy => h.a y (by rw [eA]; exact List.mem_cons_of_mem _ hy), fun y hy => ?_, fun _ => h.w (by rw [eA]; simp)⟩
    simp only at hy
    split at hy
    · rcases List.mem_append.1 hy with hy | hy
      · exact h.b y hy
      · obtain rfl := List.mem_singleton.1 hy
        exact hx
    · exact h.b y hy
theorem PInv.rewrite (h : PInv s P) : PInv (rewriteP s).1 P := by
  rcases rewriteP_eq s with ⟨_, e⟩ | ⟨x, f, B, eB, e⟩
  · rw [e]; exact h
  · rw [e]
    exact ⟨h.a, fun y hy => h.b y (by rw [eB]; exact List.mem_cons_of_mem _ hy), h.w⟩
theorem PInv.write (h : PInv s P) (acc : Bool) : PInv (writeP s acc).1 P := by
  rcases writeP_eq s acc with ⟨_, e⟩ | ⟨o, C, eC, ⟨ho, e⟩ | ⟨ha, hg, hb, e⟩⟩
  · rw [e]; exact h
  · rw [e]; exact ⟨h.a, h.b, h.w⟩
  · rw [e]; exact ⟨fun x hx => by simp at hx, fun x hx => by simp at hx, fun hx => absurd rfl hx⟩
theorem PInv.want (h : PInv s P) (n : Int) : PInv (wantP s n).1 P := by
  rcases wantP_eq s n with e | ⟨_, e⟩
  · rw [e]; exact h
  · rw [e]; exact ⟨h.a, h.b, fun _ => rfl⟩
theorem PInv.put (h : PInv s P) (x : ItS) : PInv (putP s { x with id := (P.length : Int) }).1 (if (putP s { x with id := (P.length : Int) }).2.2.2 == 0 then P ++ [x] else P) := by
  rcases putP_eq s { x with id := (P.length : Int) } with ⟨e1, e2, _⟩ | ⟨hg, hw, _, _, e2, e1, _⟩
  · rw [e1, if_neg (by simpa using e2)]; exact h
  · rw [e2, if_pos (show ((0 : Int) == 0) = true from rfl), e1]
    refine ⟨fun y hy => ?_, fun y hy => (h.b y hy).app x, fun _ => hw⟩
    simp only at hy
    split at hy
    · rcases List.mem_append.1 hy with hy | hy
      · exact (h.a y hy).app x
      · obtain rfl := List.mem_singleton.1 hy
        exact isPut.new P x
    · rcases List.mem_append.1 hy with hy | hy
      · exact (h.a y (mem_tail hy)).app x
      · obtain rfl := List.mem_singleton.1 hy
        exact isPut.new P x
theorem PInv.do (h : PInv s P) (d : ActS) : PInv (doP s d P.length).1 (if (doP s d P.length).2 then P ++ [d.x] else P) := by
  unfold doP
  split
  · have := h.put d.x
    simp only
    exact this
  · split
    · exact h.choose
    · split
      · exact h.rewrite
      · split
        · exact h.write _
        · split
          · exact h.want _
          · exact h
end
end Go.Proofs.Ytdgmmffedhikcaa
