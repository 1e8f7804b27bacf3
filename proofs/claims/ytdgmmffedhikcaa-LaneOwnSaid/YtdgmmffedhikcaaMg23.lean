/- Merged from my texts LaneX. -/
import Derived.Test.YtdgmmffedhikcaaMg22
import Derived.Test.YtdgmmffedhikcaaMg11
/- A lane's Put. (printed by gen_laneX.py) -/
namespace Go.Proofs.Ytdgmmffedhikcaa
set_option linter.unusedSimpArgs false
set_option linter.unusedVariables false
open Go.RowKit
set_option maxRecDepth 100000

theorem wpList_load_midG {P : Program} {ops : Array Oper} {rest : List Oper} {op : Oper} {a : Act} {w : World} {Q : Exit → Act → World → Prop} (hw : Region.wanted op (yielded ops a.tmps) = true) (ty : TypeId) (x : Operand) (ho : op.op = .load ty x)
    (b o : Nat) (hx : a.eval x = .pointer (some ⟨b, o, none⟩)) (cs : List Value) (d : TypeDesc) (hc : w.rangeAt b o cs)
    (hu : P.underlying ty = some d) (hd : d.isRow = true) (hi : (P.info? ty).map (·.size) = some cs.length)
    (h : wpList P ops Q rest (a.put op.dst (.agg cs.toArray)) w) : wpList P ops Q (op :: rest) a w :=
  wpList_step fun K hK => by
    rw [if_pos hw]
    exact wp_load_mid ty x ho b o hx cs d hc hu hd hi (hK _ _ h)
theorem ln_cells3 {w : World} {b t : Nat} {a0 a1 a2 : Value} {cs : List Value} (h : w.heap[b]? = some (.cells (a0 :: a1 :: a2 :: cs).toArray t (0, 0))) : w.rangeAt b 3 cs := fun j v hv => by
  rw [cell_of_row w b (3 + j) _ t (0, 0) h, List.getElem?_toArray, show 3 + j = j + 1 + 1 + 1 by omega]
  simpa using hv
theorem items_shape {D : Nat → Prop} {w : World} {q : List (List Value)} {l : List ItS} (a : All2 (RdOff RIt D w) q l) : ∀ c ∈ q, ∃ (y : ItS) (av be cl : Option Addr) (an am bn bm cn cm : Nat), c = [.int .i64 y.id, .int .i64 y.layer, .bool y.key, .bool y.pk.mr, .int .u8 y.pk.ty, .int .u16 y.pk.sq, .int .u32 y.pk.st, .int .u32 y.pk.sc, .slice av an am, .bool y.pk.has, .int .u16 y.pk.pr, .slice be bn bm, .slice cl cn cm] := fun c hc => by
  obtain ⟨y, _, hr⟩ := a.mem c hc
  obtain ⟨vs, ve, vp, rfl, ⟨⟨av, am, rfl, _⟩, ⟨be, bm, rfl, _⟩, ⟨cl, cm, rfl, _⟩⟩, _⟩ := hr.read
  exact ⟨y, av, be, cl, _, am, _, bm, _, cm, rfl⟩
theorem items_head {D : Nat → Prop} {w : World} {q : List (List Value)} {l : List ItS} (a : All2 (RdOff RIt D w) q l) : (q.head?.map idN).getD 0 = (l.head?.map (·.id)).getD 0 := by
  cases l with
  | nil => rw [a.nil_r]; rfl
  | cons o l =>
    obtain ⟨c, q', rfl, hr, _⟩ := a.uncons
    obtain ⟨vs, ve, vp, rfl, _⟩ := hr.read
    rfl
theorem pushI_any (w0 : World) (R A room f : Nat) (q : List (List Value)) (ci co cd cg : Int) (css : List (List Value)) (h0 : RgAt 13 148 41 w0 R A room f q ci co cd cg css)
    (hs : ∀ c ∈ q, ∃ (y : ItS) (av be cl : Option Addr) (an am bn bm cn cm : Nat), c = [.int .i64 y.id, .int .i64 y.layer, .bool y.key, .bool y.pk.mr, .int .u8 y.pk.ty, .int .u16 y.pk.sq, .int .u32 y.pk.st, .int .u32 y.pk.sc, .slice av an am, .bool y.pk.has, .int .u16 y.pk.pr, .slice be bn bm, .slice cl cn cm]) (x : List Value) (hx : x.length = 13 ∧ ∀ u ∈ x, u.oneCell' = true) :
    ∃ (y : ItS) (av be cl : Option Addr) (an am bn bm cn cm : Nat), (y.id = if q.length < room then 0 else (q.head?.map idN).getD 0) ∧
    ∀ w, RgAt 13 148 41 w R A room f q ci co cd cg css → Calls Try.prog 42 #[.pointer (some ⟨R, 0, none⟩), .agg x.toArray] w fun e w' => e = .returned (.tuple #[.agg #[.int .i64 y.id, .int .i64 y.layer, .bool y.key, .bool y.pk.mr, .int .u8 y.pk.ty, .int .u16 y.pk.sq, .int .u32 y.pk.st, .int .u32 y.pk.sc, .slice av an am, .bool y.pk.has, .int .u16 y.pk.pr, .slice be bn bm, .slice cl cn cm], .bool (decide (¬ q.length < room)), .int .i64 0]) ∧
      (∃ f' ci' cd' css', RgAt 13 148 41 w' R A room f' (pushQ room q x) ci' co cd' cg css') ∧ Away (RgB R A) w w' := by
  by_cases hq : q.length < room
  · refine ⟨⟨0, 0, false, pk0⟩, none, none, none, 0, 0, 0, 0, 0, 0, by rw [if_pos hq], fun w h => ?_⟩
    have hd : decide (¬ q.length < room) = false := by simp [hq]
    have hp : pushQ room q x = q ++ [x] := by unfold pushQ; rw [if_pos hq]
    rw [hd, hp]
    refine (pushI_room w R A room f q ci co cd cg css h hq x hx).mono ?_
    rintro e w' ⟨rfl, ⟨ci', g⟩, a⟩
    exact ⟨rfl, ⟨_, _, _, _, g⟩, a⟩
  · have hfit := h0.fits
    have hpos := h0.pos
    cases q with
    | nil => simp at hq; omega
    | cons c T =>
      obtain ⟨y, av, be, cl, an, am, bn, bm, cn, cm, hc⟩ := hs c (by simp)
      refine ⟨y, av, be, cl, an, am, bn, bm, cn, cm, by rw [if_neg hq, hc]; rfl, fun w h => ?_⟩
      have hd : decide (¬ (c :: T).length < room) = true := by simpa using hq
      have hp : pushQ room (c :: T) x = T ++ [x] := by unfold pushQ; rw [if_neg hq]; rfl
      rw [hd, hp]
      refine (pushI_full w R A room f c T ci co cd cg css h (by omega) x hx).mono ?_
      rintro e w' ⟨rfl, ⟨ci', cd', g⟩, a⟩
      exact ⟨by rw [hc], ⟨_, _, _, _, g⟩, a⟩
section
variable {N : Nat → Prop} {w w' : World} {k : LnB} {vo : Value} {s s' : LnS}
set_option maxHeartbeats 2000000 in
theorem put_ln_no (h : LnX N w k vo s) (x : ItS) (os oe ol : Option Addr) (ks ke kl : Nat) (hp : PkS w (.slice os x.pk.ss.length ks) (.slice oe x.pk.ex.length ke) (.slice ol x.pk.pl.length kl) x.pk) (hsm : PkSm x.pk) (n : Int)
    (hn : (thereL x.layer = false ∧ n = 1) ∨ (thereL x.layer = true ∧ rightH x.pk = false ∧ n = 1) ∨ (thereL x.layer = true ∧ rightH x.pk = true ∧ s.gone = true ∧ n = 7) ∨ (thereL x.layer = true ∧ rightH x.pk = true ∧ s.gone = false ∧ s.wanted = false ∧ n = 5)) :
    Calls Try.prog 13 #[.pointer (some ⟨k.L, 0, none⟩), .agg #[.int .i64 x.id, .int .i64 x.layer, .bool x.key, .bool x.pk.mr, .int .u8 x.pk.ty, .int .u16 x.pk.sq, .int .u32 x.pk.st, .int .u32 x.pk.sc, .slice os x.pk.ss.length ks, .bool x.pk.has, .int .u16 x.pk.pr, .slice oe x.pk.ex.length ke, .slice ol x.pk.pl.length kl]] w fun e w' => e = .returned (.tuple #[.int .i64 0, .bool false, .int .i64 n]) ∧ More w w' := by
  have HRI : Hid (∀ w', More w w' → Calls Try.prog 27 #[.agg #[.bool x.pk.mr, .int .u8 x.pk.ty, .int .u16 x.pk.sq, .int .u32 x.pk.st, .int .u32 x.pk.sc, .slice os x.pk.ss.length ks, .bool x.pk.has, .int .u16 x.pk.pr, .slice oe x.pk.ex.length ke, .slice ol x.pk.pl.length kl]] w' fun e w'' => e = .returned (.bool (rightH x.pk)) ∧ More w' w'') := Lib.hid fun w' m => RightH_any x.pk _ _ _ w' (hp.keep m) hsm
  have HG := Lib.hid fun (w' : World) (m : More w w') => gone_ln (h.on m)
  have H := Lib.hid h
  have hL : k.L < w.heap.size := blk_lt h.blk
  clear h hp hsm
  rcases hn with ⟨ht, rfl⟩ | ⟨ht, hr, rfl⟩ | ⟨ht, hr, hg, rfl⟩ | ⟨ht, hr, hg, hw, rfl⟩
  · have HT := Lib.hid ht
    clear ht
    go_enter Try.func13, Try.ntmps13
    go_wp2_with (first | (go_at_call 39; ((with_reducible refine (there_lane x.layer _).mono ?_); rintro e w1 ⟨rfl, e1⟩; subst w1; rw [HT.out])) | (refine lnIf (.load 39 (.tmp 15)) rfl ?_; refine wpList_load_midG rfl 39 (.tmp 15) rfl w.heap.size 3 rfl [.bool x.pk.mr, .int .u8 x.pk.ty, .int .u16 x.pk.sq, .int .u32 x.pk.st, .int .u32 x.pk.sc, .slice os x.pk.ss.length ks, .bool x.pk.has, .int .u16 x.pk.pr, .slice oe x.pk.ex.length ke, .slice ol x.pk.pl.length kl] _ (ln_cells3 (blk_new w (.cells #[.int .i64 x.id, .int .i64 x.layer, .bool x.key, .bool x.pk.mr, .int .u8 x.pk.ty, .int .u16 x.pk.sq, .int .u32 x.pk.st, .int .u32 x.pk.sc, .slice os x.pk.ss.length ks, .bool x.pk.has, .int .u16 x.pk.pr, .slice oe x.pk.ex.length ke, .slice ol x.pk.pl.length kl] 41))) Try.underlying39 rfl (by kernel_rfl) ?_) | (go_at_call 27; ((with_reducible refine (HRI.out _ (More.alloc _ _)).mono ?_); rintro e w2 ⟨rfl, m2⟩; have M2 : Hid (More w w2) := Lib.hid ((More.alloc _ _).trans m2); have X2 := Lib.hid (blk_more m2 (blk_new w (.cells #[.int .i64 x.id, .int .i64 x.layer, .bool x.key, .bool x.pk.mr, .int .u8 x.pk.ty, .int .u16 x.pk.sq, .int .u32 x.pk.st, .int .u32 x.pk.sc, .slice os x.pk.ss.length ks, .bool x.pk.has, .int .u16 x.pk.pr, .slice oe x.pk.ex.length ke, .slice ol x.pk.pl.length kl] 41))); clear m2)))
    refine bodyPost_ret (v := .tuple #[.int .i64 0, .bool false, .int .i64 1]) (by simp [results, Try.results13, go_sem]) rfl ?_
    exact ⟨rfl, (by repeat (first | exact More.refl _ | assumption | refine More.dr ?_ _ | refine More.al ?_ _ | refine More.st ?_ (by simp) _))⟩
  · have HT := Lib.hid ht
    rw [hr] at HRI
    clear ht hr
    go_enter Try.func13, Try.ntmps13
    go_wp2_with (first | (go_at_call 39; ((with_reducible refine (there_lane x.layer _).mono ?_); rintro e w1 ⟨rfl, e1⟩; subst w1; rw [HT.out])) | (refine lnIf (.load 39 (.tmp 15)) rfl ?_; refine wpList_load_midG rfl 39 (.tmp 15) rfl w.heap.size 3 rfl [.bool x.pk.mr, .int .u8 x.pk.ty, .int .u16 x.pk.sq, .int .u32 x.pk.st, .int .u32 x.pk.sc, .slice os x.pk.ss.length ks, .bool x.pk.has, .int .u16 x.pk.pr, .slice oe x.pk.ex.length ke, .slice ol x.pk.pl.length kl] _ (ln_cells3 (blk_new w (.cells #[.int .i64 x.id, .int .i64 x.layer, .bool x.key, .bool x.pk.mr, .int .u8 x.pk.ty, .int .u16 x.pk.sq, .int .u32 x.pk.st, .int .u32 x.pk.sc, .slice os x.pk.ss.length ks, .bool x.pk.has, .int .u16 x.pk.pr, .slice oe x.pk.ex.length ke, .slice ol x.pk.pl.length kl] 41))) Try.underlying39 rfl (by kernel_rfl) ?_) | (go_at_call 27; ((with_reducible refine (HRI.out _ (More.alloc _ _)).mono ?_); rintro e w2 ⟨rfl, m2⟩; have M2 : Hid (More w w2) := Lib.hid ((More.alloc _ _).trans m2); have X2 := Lib.hid (blk_more m2 (blk_new w (.cells #[.int .i64 x.id, .int .i64 x.layer, .bool x.key, .bool x.pk.mr, .int .u8 x.pk.ty, .int .u16 x.pk.sq, .int .u32 x.pk.st, .int .u32 x.pk.sc, .slice os x.pk.ss.length ks, .bool x.pk.has, .int .u16 x.pk.pr, .slice oe x.pk.ex.length ke, .slice ol x.pk.pl.length kl] 41))); clear m2)))
    refine bodyPost_ret (v := .tuple #[.int .i64 0, .bool false, .int .i64 1]) (by simp [results, Try.results13, go_sem]) rfl ?_
    exact ⟨rfl, M2.out⟩
  · have HT := Lib.hid ht
    rw [hr] at HRI
    rw [hg] at HG
    clear ht hr hg
    go_enter Try.func13, Try.ntmps13
    go_wp2_with (first | (go_at_call 39; ((with_reducible refine (there_lane x.layer _).mono ?_); rintro e w1 ⟨rfl, e1⟩; subst w1; rw [HT.out])) | (refine lnIf (.load 39 (.tmp 15)) rfl ?_; refine wpList_load_midG rfl 39 (.tmp 15) rfl w.heap.size 3 rfl [.bool x.pk.mr, .int .u8 x.pk.ty, .int .u16 x.pk.sq, .int .u32 x.pk.st, .int .u32 x.pk.sc, .slice os x.pk.ss.length ks, .bool x.pk.has, .int .u16 x.pk.pr, .slice oe x.pk.ex.length ke, .slice ol x.pk.pl.length kl] _ (ln_cells3 (blk_new w (.cells #[.int .i64 x.id, .int .i64 x.layer, .bool x.key, .bool x.pk.mr, .int .u8 x.pk.ty, .int .u16 x.pk.sq, .int .u32 x.pk.st, .int .u32 x.pk.sc, .slice os x.pk.ss.length ks, .bool x.pk.has, .int .u16 x.pk.pr, .slice oe x.pk.ex.length ke, .slice ol x.pk.pl.length kl] 41))) Try.underlying39 rfl (by kernel_rfl) ?_) | (go_at_call 27; ((with_reducible refine (HRI.out _ (More.alloc _ _)).mono ?_); rintro e w2 ⟨rfl, m2⟩; have M2 : Hid (More w w2) := Lib.hid ((More.alloc _ _).trans m2); have X2 := Lib.hid (blk_more m2 (blk_new w (.cells #[.int .i64 x.id, .int .i64 x.layer, .bool x.key, .bool x.pk.mr, .int .u8 x.pk.ty, .int .u16 x.pk.sq, .int .u32 x.pk.st, .int .u32 x.pk.sc, .slice os x.pk.ss.length ks, .bool x.pk.has, .int .u16 x.pk.pr, .slice oe x.pk.ex.length ke, .slice ol x.pk.pl.length kl] 41))); clear m2)) | (go_at_call 18; ((with_reducible refine (HG.out _ M2.out).mono ?_); rintro e w3 ⟨rfl, m3⟩; have M3 : Hid (More w w3) := Lib.hid (M2.out.trans m3); clear m3)))
    refine bodyPost_ret (v := .tuple #[.int .i64 0, .bool false, .int .i64 7]) (by simp [results, Try.results13, go_sem]) rfl ?_
    exact ⟨rfl, M3.out⟩
  · have HT := Lib.hid ht
    rw [hr] at HRI
    rw [hg] at HG
    have HW := Lib.hid hw
    clear ht hr hg hw
    go_enter Try.func13, Try.ntmps13
    go_wp2_with (first | (go_at_call 39; ((with_reducible refine (there_lane x.layer _).mono ?_); rintro e w1 ⟨rfl, e1⟩; subst w1; rw [HT.out])) | (refine lnIf (.load 39 (.tmp 15)) rfl ?_; refine wpList_load_midG rfl 39 (.tmp 15) rfl w.heap.size 3 rfl [.bool x.pk.mr, .int .u8 x.pk.ty, .int .u16 x.pk.sq, .int .u32 x.pk.st, .int .u32 x.pk.sc, .slice os x.pk.ss.length ks, .bool x.pk.has, .int .u16 x.pk.pr, .slice oe x.pk.ex.length ke, .slice ol x.pk.pl.length kl] _ (ln_cells3 (blk_new w (.cells #[.int .i64 x.id, .int .i64 x.layer, .bool x.key, .bool x.pk.mr, .int .u8 x.pk.ty, .int .u16 x.pk.sq, .int .u32 x.pk.st, .int .u32 x.pk.sc, .slice os x.pk.ss.length ks, .bool x.pk.has, .int .u16 x.pk.pr, .slice oe x.pk.ex.length ke, .slice ol x.pk.pl.length kl] 41))) Try.underlying39 rfl (by kernel_rfl) ?_) | (go_at_call 27; ((with_reducible refine (HRI.out _ (More.alloc _ _)).mono ?_); rintro e w2 ⟨rfl, m2⟩; have M2 : Hid (More w w2) := Lib.hid ((More.alloc _ _).trans m2); have X2 := Lib.hid (blk_more m2 (blk_new w (.cells #[.int .i64 x.id, .int .i64 x.layer, .bool x.key, .bool x.pk.mr, .int .u8 x.pk.ty, .int .u16 x.pk.sq, .int .u32 x.pk.st, .int .u32 x.pk.sc, .slice os x.pk.ss.length ks, .bool x.pk.has, .int .u16 x.pk.pr, .slice oe x.pk.ex.length ke, .slice ol x.pk.pl.length kl] 41))); clear m2)) | (go_at_call 18; ((with_reducible refine (HG.out _ M2.out).mono ?_); rintro e w3 ⟨rfl, m3⟩; have M3 : Hid (More w w3) := Lib.hid (M2.out.trans m3); clear m3; have c4 : w3.cell? ⟨k.L, 4, none⟩ = some (.bool false) := (by rw [← HW.out]; exact blk_cell (blk_more M3.out H.out.blk) 4 rfl))))
    refine bodyPost_ret (v := .tuple #[.int .i64 0, .bool false, .int .i64 5]) (by simp [results, Try.results13, go_sem]) rfl ?_
    exact ⟨rfl, M3.out⟩
set_option maxHeartbeats 8000000 in
theorem put_ln_yes (h : LnX N w k vo s) (x : ItS) (os oe ol : Option Addr) (ks ke kl : Nat) (hp : PkS w (.slice os x.pk.ss.length ks) (.slice oe x.pk.ex.length ke) (.slice ol x.pk.pl.length kl) x.pk) (hok : PkOK x.pk) (hsm : PkSm x.pk)
    (ht : thereL x.layer = true) (hr : rightH x.pk = true) (hg : s.gone = false) (hw : s.wanted = true) :
    Calls Try.prog 13 #[.pointer (some ⟨k.L, 0, none⟩), .agg #[.int .i64 x.id, .int .i64 x.layer, .bool x.key, .bool x.pk.mr, .int .u8 x.pk.ty, .int .u16 x.pk.sq, .int .u32 x.pk.st, .int .u32 x.pk.sc, .slice os x.pk.ss.length ks, .bool x.pk.has, .int .u16 x.pk.pr, .slice oe x.pk.ex.length ke, .slice ol x.pk.pl.length kl]] w fun e w' => e = .returned (.tuple #[.int .i64 (if s.A.length < s.room then 0 else (s.A.head?.map (·.id)).getD 0), .bool (decide (¬ s.A.length < s.room)), .int .i64 0]) ∧
      LnX (Grew N w w') w' k vo { s with A := if s.A.length < s.room then s.A ++ [x] else s.A.tail ++ [x] } ∧ Away N w w' := by
  have HRI : Hid (∀ w', More w w' → Calls Try.prog 27 #[.agg #[.bool x.pk.mr, .int .u8 x.pk.ty, .int .u16 x.pk.sq, .int .u32 x.pk.st, .int .u32 x.pk.sc, .slice os x.pk.ss.length ks, .bool x.pk.has, .int .u16 x.pk.pr, .slice oe x.pk.ex.length ke, .slice ol x.pk.pl.length kl]] w' fun e w'' => e = .returned (.bool true) ∧ More w' w'') := Lib.hid fun w' m => by have := RightH_any x.pk _ _ _ w' (hp.keep m) hsm; rw [hr] at this; exact this
  have HG : Hid (∀ (w' : World), More w w' → Calls Try.prog 18 #[.pointer (some ⟨k.L, 0, none⟩)] w' fun e w'' => e = .returned (.bool false) ∧ More w' w'') := Lib.hid fun w' m => by have := gone_ln (h.on m); rw [hg] at this; exact this
  have HT := Lib.hid ht
  have HR := Lib.hid hr
  have HW := Lib.hid hw
  have H := Lib.hid h
  have HP := Lib.hid hp
  have HM := Lib.hid hsm
  have HK := Lib.hid hok
  have hL : k.L < w.heap.size := blk_lt h.blk
  have D1 := Lib.hid h.dist
  obtain ⟨ro, hro⟩ : ∃ ro, (if s.A.length < s.room then 0 else (s.A.head?.map (·.id)).getD 0) = ro := ⟨_, rfl⟩
  obtain ⟨rd, hrd⟩ : ∃ rd, decide (¬ s.A.length < s.room) = rd := ⟨_, rfl⟩
  obtain ⟨rc, hrc⟩ : ∃ rc, (if s.A.length < s.room then s.A ++ [x] else s.A.tail ++ [x]) = rc := ⟨_, rfl⟩
  rw [hro, hrd, hrc]
  have HRO := Lib.hid hro
  have HRD := Lib.hid hrd
  have HRC := Lib.hid hrc
  clear hro hrd hrc h hp hsm hok ht hr hg hw
  go_enter Try.func13, Try.ntmps13
  go_wp2_with (first | (go_at_call 39; ((with_reducible refine (there_lane x.layer _).mono ?_); rintro e w1 ⟨rfl, e1⟩; subst w1; rw [HT.out])) | (refine lnIf (.load 39 (.tmp 15)) rfl ?_; refine wpList_load_midG rfl 39 (.tmp 15) rfl w.heap.size 3 rfl [.bool x.pk.mr, .int .u8 x.pk.ty, .int .u16 x.pk.sq, .int .u32 x.pk.st, .int .u32 x.pk.sc, .slice os x.pk.ss.length ks, .bool x.pk.has, .int .u16 x.pk.pr, .slice oe x.pk.ex.length ke, .slice ol x.pk.pl.length kl] _ (ln_cells3 (blk_new w (.cells #[.int .i64 x.id, .int .i64 x.layer, .bool x.key, .bool x.pk.mr, .int .u8 x.pk.ty, .int .u16 x.pk.sq, .int .u32 x.pk.st, .int .u32 x.pk.sc, .slice os x.pk.ss.length ks, .bool x.pk.has, .int .u16 x.pk.pr, .slice oe x.pk.ex.length ke, .slice ol x.pk.pl.length kl] 41))) Try.underlying39 rfl (by kernel_rfl) ?_) | (go_at_call 27; ((with_reducible refine (HRI.out _ (More.alloc _ _)).mono ?_); rintro e w2 ⟨rfl, m2⟩; have M2 : Hid (More w w2) := Lib.hid ((More.alloc _ _).trans m2); have X2 := Lib.hid (blk_more m2 (blk_new w (.cells #[.int .i64 x.id, .int .i64 x.layer, .bool x.key, .bool x.pk.mr, .int .u8 x.pk.ty, .int .u16 x.pk.sq, .int .u32 x.pk.st, .int .u32 x.pk.sc, .slice os x.pk.ss.length ks, .bool x.pk.has, .int .u16 x.pk.pr, .slice oe x.pk.ex.length ke, .slice ol x.pk.pl.length kl] 41))); clear m2)) | (go_at_call 18; ((with_reducible refine (HG.out _ M2.out).mono ?_); rintro e w3 ⟨rfl, m3⟩; have M3 : Hid (More w w3) := Lib.hid (M2.out.trans m3); have X3 := Lib.hid (blk_more m3 X2.out); clear m3; have c4 : w3.cell? ⟨k.L, 4, none⟩ = some (.bool true) := (by rw [← HW.out]; exact blk_cell (blk_more M3.out H.out.blk) 4 rfl); have x8 : w3.cell? ⟨w.heap.size, 8, none⟩ = some (.slice os x.pk.ss.length ks) := blk_cell X3.out 8 rfl)) | (go_at_call 40; ((with_reducible refine (cloneU _ x.pk.ss w3 (HP.out.s.keep M3.out) HM.out.s).mono ?_); rintro e w4 ⟨⟨v4, rfl, o4⟩, m4⟩; have O4 := Lib.hid o4; have M4 : Hid (More w w4) := Lib.hid (M3.out.trans m4); have X4 := Lib.hid (blk_more m4 X3.out); obtain ⟨os1, ks1, rfl⟩ := lnShapeI o4; clear o4 m4; have x8 : w4.cell? ⟨w.heap.size, 8, none⟩ = some (.slice os x.pk.ss.length ks) := blk_cell X4.out 8 rfl; have y8 : w4.frozen? ⟨w.heap.size, 8, none⟩ = false := blk_free X4.out 8; have x11 : w4.cell? ⟨w.heap.size, 11, none⟩ = some (.slice oe x.pk.ex.length ke) := blk_cell X4.out 11 rfl)) | (go_at_call 41; ((with_reducible refine (cloneB (.slice oe x.pk.ex.length ke) x.pk.ex (w4.setCell ⟨w.heap.size, 8, none⟩ (.slice os1 x.pk.ss.length ks1)) (HP.out.e.keep (M4.out.st (Nat.le_refl _) _)) HM.out.e).mono ?_); rintro e w5 ⟨⟨v5, rfl, o5⟩, m5⟩; have O5 := Lib.hid o5; have M5 : Hid (More w w5) := Lib.hid ((M4.out.st (Nat.le_refl _) _).trans m5); have N5 : Hid (Away (fun b => b = w.heap.size) w4 w5) := Lib.hid (((Away.refl (fun b => b = w.heap.size) w4).set (p := ⟨w.heap.size, 8, none⟩) rfl _).more m5); have X5 : Hid (w5.heap[w.heap.size]? = some (.cells #[.int .i64 x.id, .int .i64 x.layer, .bool x.key, .bool x.pk.mr, .int .u8 x.pk.ty, .int .u16 x.pk.sq, .int .u32 x.pk.st, .int .u32 x.pk.sc, .slice os1 x.pk.ss.length ks1, .bool x.pk.has, .int .u16 x.pk.pr, .slice oe x.pk.ex.length ke, .slice ol x.pk.pl.length kl] 41 (0, 0))) := Lib.hid (blk_more m5 (blk_eq (blk_set X4.out 8 _) rfl)); obtain ⟨oe1, ke1, rfl⟩ := lnShapeI o5; clear o5 m5; have x11 : w5.cell? ⟨w.heap.size, 11, none⟩ = some (.slice oe x.pk.ex.length ke) := blk_cell X5.out 11 rfl; have y11 : w5.frozen? ⟨w.heap.size, 11, none⟩ = false := blk_free X5.out 11; have x12 : w5.cell? ⟨w.heap.size, 12, none⟩ = some (.slice ol x.pk.pl.length kl) := blk_cell X5.out 12 rfl)) | (go_at_call 41; ((with_reducible refine (cloneB (.slice ol x.pk.pl.length kl) x.pk.pl (w5.setCell ⟨w.heap.size, 11, none⟩ (.slice oe1 x.pk.ex.length ke1)) (HP.out.l.keep (M5.out.st (Nat.le_refl _) _)) HM.out.l).mono ?_); rintro e w6 ⟨⟨v6, rfl, o6⟩, m6⟩; have O6 := Lib.hid o6; have M6 : Hid (More w w6) := Lib.hid ((M5.out.st (Nat.le_refl _) _).trans m6); have N6 : Hid (Away (fun b => b = w.heap.size) w5 w6) := Lib.hid (((Away.refl (fun b => b = w.heap.size) w5).set (p := ⟨w.heap.size, 11, none⟩) rfl _).more m6); have X6 : Hid (w6.heap[w.heap.size]? = some (.cells #[.int .i64 x.id, .int .i64 x.layer, .bool x.key, .bool x.pk.mr, .int .u8 x.pk.ty, .int .u16 x.pk.sq, .int .u32 x.pk.st, .int .u32 x.pk.sc, .slice os1 x.pk.ss.length ks1, .bool x.pk.has, .int .u16 x.pk.pr, .slice oe1 x.pk.ex.length ke1, .slice ol x.pk.pl.length kl] 41 (0, 0))) := Lib.hid (blk_more m6 (blk_eq (blk_set X5.out 11 _) rfl)); obtain ⟨ol1, kl1, rfl⟩ := lnShapeI o6; clear o6 m6; have x12 : w6.cell? ⟨w.heap.size, 12, none⟩ = some (.slice ol x.pk.pl.length kl) := blk_cell X6.out 12 rfl; have y12 : w6.frozen? ⟨w.heap.size, 12, none⟩ = false := blk_free X6.out 12)))
  obtain ⟨W7, hW7⟩ : ∃ W7, w6.setCell ⟨w.heap.size, 12, none⟩ (.slice ol1 x.pk.pl.length kl1) = W7 := ⟨_, rfl⟩
  have N7 : Hid (Away (fun b => b = w.heap.size) w6 W7) := Lib.hid (by rw [← hW7]; exact (Away.refl (fun b => b = w.heap.size) w6).set (p := ⟨w.heap.size, 12, none⟩) rfl _)
  have M7 : Hid (More w W7) := Lib.hid (by rw [← hW7]; exact M6.out.st (Nat.le_refl _) _)
  have X7 : Hid (W7.heap[w.heap.size]? = some (.cells #[.int .i64 x.id, .int .i64 x.layer, .bool x.key, .bool x.pk.mr, .int .u8 x.pk.ty, .int .u16 x.pk.sq, .int .u32 x.pk.st, .int .u32 x.pk.sc, .slice os1 x.pk.ss.length ks1, .bool x.pk.has, .int .u16 x.pk.pr, .slice oe1 x.pk.ex.length ke1, .slice ol1 x.pk.pl.length kl1] 41 (0, 0))) := Lib.hid (by rw [← hW7]; exact blk_eq (blk_set X6.out 12 _) rfl)
  rw [hW7]
  clear hW7
  have B7 := Lib.hid (blk_more M7.out H.out.blk)
  have q3 : w.heap.size < w3.heap.size := blk_lt X3.out
  have q4 : w.heap.size < w4.heap.size := blk_lt X4.out
  have q5 : w.heap.size < w5.heap.size := blk_lt X5.out
  have q7 : w.heap.size < W7.heap.size := blk_lt X7.out
  have p5 : w4.heap.size ≤ w5.heap.size := N5.out.size
  have p6 : w5.heap.size ≤ w6.heap.size := N6.out.size
  have p7 : w6.heap.size ≤ W7.heap.size := N7.out.size
  have S4 : Hid (SlI .u32 W7 (.slice os1 x.pk.ss.length ks1) x.pk.ss) := Lib.hid ((SlI.of_owns O4.out (by have := HM.out.s; omega)).off (fun b e hb => by have := lnGeO O4.out e; omega) ((N5.out.trans N6.out).trans N7.out))
  have S5 : Hid (SlI .u8 W7 (.slice oe1 x.pk.ex.length ke1) x.pk.ex) := Lib.hid ((SlI.of_owns O5.out (by have := HM.out.e; omega)).off (fun b e hb => by have := lnGeO O5.out e; simp at this; omega) (N6.out.trans N7.out))
  have S6 : Hid (SlI .u8 W7 (.slice ol1 x.pk.pl.length kl1) x.pk.pl) := Lib.hid ((SlI.of_owns O6.out (by have := HM.out.l; omega)).off (fun b e hb => by have := lnGeO O6.out e; simp at this; omega) N7.out)
  have V4 : Hid (∀ b, (Value.slice os1 x.pk.ss.length ks1).ownBlock = some b → w.heap.size ≤ b ∧ b < W7.heap.size) := Lib.hid fun b e => by
    have h1 := lnGeO O4.out e
    have h2 := lnLtO O4.out e
    omega
  have V5 : Hid (∀ b, (Value.slice oe1 x.pk.ex.length ke1).ownBlock = some b → w.heap.size ≤ b ∧ b < W7.heap.size) := Lib.hid fun b e => by
    have h1 := lnGeO O5.out e
    have h2 := lnLtO O5.out e
    simp at h1
    omega
  have V6 : Hid (∀ b, (Value.slice ol1 x.pk.pl.length kl1).ownBlock = some b → w.heap.size ≤ b ∧ b < W7.heap.size) := Lib.hid fun b e => by
    have h1 := lnGeO O6.out e
    have h2 := lnLtO O6.out e
    simp at h1
    omega
  clear O4 O5 O6
  obtain ⟨f1, q1, ci1, co1, cd1, cg1, css1, g1, a1⟩ := H.out.r1
  have AC := Lib.hid a1
  have hq1 : q1.length = s.A.length := a1.len
  have hR1 : k.R1 < w.heap.size := blk_lt g1.ring
  have hA1 : k.A1 < w.heap.size := blk_lt g1.row
  have E1 := Lib.hid (g1.more M7.out)
  obtain ⟨y, av, be, cl, an, am, bn, bm, cn, cm, hold, hpush⟩ := pushI_any W7 k.R1 k.A1 s.room f1 q1 ci1 co1 cd1 cg1 css1 E1.out (items_shape a1) [.int .i64 x.id, .int .i64 x.layer, .bool x.key, .bool x.pk.mr, .int .u8 x.pk.ty, .int .u16 x.pk.sq, .int .u32 x.pk.st, .int .u32 x.pk.sc, .slice os1 x.pk.ss.length ks1, .bool x.pk.has, .int .u16 x.pk.pr, .slice oe1 x.pk.ex.length ke1, .slice ol1 x.pk.pl.length kl1] ⟨rfl, by simp [Value.oneCell']⟩
  have HPU := Lib.hid hpush
  have HOLD := Lib.hid hold
  clear hpush hold g1 a1
  generalize hdr : decide (¬ q1.length < s.room) = dr at HPU
  have HDR := Lib.hid hdr
  clear hdr
  have nL : ¬ RgB k.R1 k.A1 k.L := by
    obtain ⟨⟨d1, d2, d3, d4, d5, d6⟩, _⟩ := D1.out
    rintro (e | e) <;> omega
  have nX : ¬ RgB k.R1 k.A1 w.heap.size := by rintro (e | e) <;> omega
  go_cut [7, 8, 9] from 45 (fun s7 s8 s9 wx => ∃ C, s7 = .pointer (some ⟨C, 0, none⟩) ∧ s8 = .bool dr ∧ s9 = .int .i64 0 ∧ wx.heap[C]? = some (.cells #[.int .i64 y.id, .int .i64 y.layer, .bool y.key, .bool y.pk.mr, .int .u8 y.pk.ty, .int .u16 y.pk.sq, .int .u32 y.pk.st, .int .u32 y.pk.sc, .slice av an am, .bool y.pk.has, .int .u16 y.pk.pr, .slice be bn bm, .slice cl cn cm] 41 (0, 0)) ∧ Away (RgB k.R1 k.A1) W7 wx ∧ ∃ f' ci' cd' css', RgAt 13 148 41 wx k.R1 k.A1 s.room f' (pushQ s.room q1 [.int .i64 x.id, .int .i64 x.layer, .bool x.key, .bool x.pk.mr, .int .u8 x.pk.ty, .int .u16 x.pk.sq, .int .u32 x.pk.st, .int .u32 x.pk.sc, .slice os1 x.pk.ss.length ks1, .bool x.pk.has, .int .u16 x.pk.pr, .slice oe1 x.pk.ex.length ke1, .slice ol1 x.pk.pl.length kl1]) ci' co1 cd' cg1 css')
  case first =>
    have L1 : ∀ z : LaterS (RgB k.R1 k.A1) W7, z.w'.cell? ⟨k.L, 1, none⟩ = some (.pointer (some ⟨k.R1, 0, none⟩)) := fun z => blk_cell (z.h.blk B7.out nL) 1 rfl
    have LX : ∀ z : LaterS (RgB k.R1 k.A1) W7, z.w'.rangeAt w.heap.size 0 [.int .i64 x.id, .int .i64 x.layer, .bool x.key, .bool x.pk.mr, .int .u8 x.pk.ty, .int .u16 x.pk.sq, .int .u32 x.pk.st, .int .u32 x.pk.sc, .slice os1 x.pk.ss.length ks1, .bool x.pk.has, .int .u16 x.pk.pr, .slice oe1 x.pk.ex.length ke1, .slice ol1 x.pk.pl.length kl1] := fun z => lnRange (z.h.blk X7.out nX)
    refine wp_region_trS (RgB k.R1 k.A1) W7 14 (.op 0 false (.op 1 false (.op 2 false (.op 3 false (.op 4 false (.br [5, 10] fun k => if k = 5 then .op 6 false (.op 7 false (.op 8 false (.op 9 false (.op 10 true (.op 11 true (.op 12 false (.op 13 false (.done)))))))) else .op 5 true (.op 6 false (.op 7 false (.op 8 false (.op 9 false (.op 11 true (.op 12 false (.op 13 false (.done)))))))))))))) (by kernel_rfl) (by kernel_rfl) ?_
    iterate 4 (refine tr_quiet rfl rfl (laterS_mk (by repeat (first | exact Away.refl _ _ | assumption | refine Away.drewN ?_ _ | refine Away.set ?_ (by first | rfl | exact Or.inl rfl | exact Or.inr rfl) _))) ?_; intro K hK; go_big_quiet_op; go_big_quiet_on)
    refine tr_load_mid rfl rfl (laterS_mk (by repeat (first | exact Away.refl _ _ | assumption | refine Away.drewN ?_ _ | refine Away.set ?_ (by first | rfl | exact Or.inl rfl | exact Or.inr rfl) _))) 41 (.tmp 3) rfl w.heap.size 0 rfl [.int .i64 x.id, .int .i64 x.layer, .bool x.key, .bool x.pk.mr, .int .u8 x.pk.ty, .int .u16 x.pk.sq, .int .u32 x.pk.st, .int .u32 x.pk.sc, .slice os1 x.pk.ss.length ks1, .bool x.pk.has, .int .u16 x.pk.pr, .slice oe1 x.pk.ex.length ke1, .slice ol1 x.pk.pl.length kl1] _ (fun w' hx => by obtain ⟨z, rfl⟩ := hx; exact LX z) Try.underlying41 rfl (by kernel_rfl) ?_
    intro K hK
    go_simp
    refine hK _ ?_
    clear hK K
    refine tr_two (by decide) ?_ ?_
    · (refine tr_next rfl rfl ?_; intro K hK; unfold loud; go_simp)
      (with_reducible refine (HPU.out _ (E1.out.more (More.drewN W7 1))).mono ?_)
      rintro e w9 ⟨rfl, g9, a9⟩
      have A9 : Hid (Away (RgB k.R1 k.A1) W7 w9) := Lib.hid (((Away.refl _ _).drewN 1).trans a9)
      have G9 := Lib.hid g9
      clear a9 g9
      refine ⟨_, rfl, laterS_mk A9.out, hK _ _ ?_⟩
      clear hK K
      repeat (first | (refine tr_skip rfl rfl (laterS_mk A9.out) ?_) | (refine tr_quiet rfl rfl (laterS_mk A9.out) ?_; intro K hK; go_big_quiet_op; go_big_quiet_on))
      (refine tr_next rfl rfl ?_; intro K hK; unfold loud; go_simp)
      refine ⟨laterS_mk (A9.out.alc _), hK _ _ ?_⟩
      clear hK K
      refine tr_next rfl rfl ?_
      intro K hK
      refine loud_store_all 41 (.tmp 7) (.tmp 52) rfl w9.heap.size 41 _ #[.int .i64 y.id, .int .i64 y.layer, .bool y.key, .bool y.pk.mr, .int .u8 y.pk.ty, .int .u16 y.pk.sq, .int .u32 y.pk.st, .int .u32 y.pk.sc, .slice av an am, .bool y.pk.has, .int .u16 y.pk.pr, .slice be bn bm, .slice cl cn cm] rfl rfl (blk_new w9 _) (by kernel_rfl) rfl (all_oneCell_toArray (by simp [Value.oneCell'])) ?_
      refine ⟨laterS_mk ((A9.out.alc _).rowNew A9.out.size _), ?_⟩
      go_simp
      refine hK _ _ ?_
      clear hK K
      repeat (first | (refine tr_skip rfl rfl (laterS_mk ((A9.out.alc _).rowNew A9.out.size _)) ?_) | (refine tr_quiet rfl rfl (laterS_mk ((A9.out.alc _).rowNew A9.out.size _)) ?_; intro K hK; go_big_quiet_op; go_big_quiet_on))
      refine tr_done ?_
      go_wp2
      go_meet
      obtain ⟨f', ci', cd', css', g9⟩ := G9.out
      refine ⟨_, rfl, rfl, rfl, lnBlk (blk_new w9 _) _, (A9.out.alc _).rowNew A9.out.size _, f', ci', cd', css', (g9.more (More.alloc _ _)).away (lnAway _ _ _) ?_ ?_⟩
      · have := blk_lt g9.ring; omega
      · have := blk_lt g9.row; omega
    · (refine tr_next rfl rfl ?_; intro K hK; unfold loud; go_simp)
      refine ⟨laterS_mk (((Away.refl _ W7).drewN 1).alc _), hK _ _ ?_⟩
      clear hK K
      (refine tr_next rfl rfl ?_; intro K hK; unfold loud; go_simp)
      (with_reducible refine (HPU.out _ (E1.out.more ((More.drewN W7 1).al _))).mono ?_)
      rintro e w9 ⟨rfl, g9, a9⟩
      have A9 : Hid (Away (RgB k.R1 k.A1) W7 w9) := Lib.hid ((((Away.refl _ _).drewN 1).alc _).trans a9)
      have G9 := Lib.hid g9
      have hR18 : k.R1 < W7.heap.size := blk_lt E1.out.ring
      have hA18 : k.A1 < W7.heap.size := blk_lt E1.out.row
      have C9 : Hid (w9.heap[W7.heap.size]? = some (.cells #[.int .i64 0, .int .i64 0, .bool false, .bool false, .int .u8 0, .int .u16 0, .int .u32 0, .int .u32 0, .slice none 0 0, .bool false, .int .u16 0, .slice none 0 0, .slice none 0 0] 41 (0, 0))) := Lib.hid (a9.blk (blk_new2 rfl) (by rintro (e | e) <;> omega))
      clear a9 g9
      refine ⟨_, rfl, laterS_mk A9.out, hK _ _ ?_⟩
      clear hK K
      repeat (first | (refine tr_skip rfl rfl (laterS_mk A9.out) ?_) | (refine tr_quiet rfl rfl (laterS_mk A9.out) ?_; intro K hK; go_big_quiet_op; go_big_quiet_on))
      refine tr_next rfl rfl ?_
      intro K hK
      refine loud_store_all 41 (.tmp 7) (.tmp 52) rfl W7.heap.size 41 _ #[.int .i64 y.id, .int .i64 y.layer, .bool y.key, .bool y.pk.mr, .int .u8 y.pk.ty, .int .u16 y.pk.sq, .int .u32 y.pk.st, .int .u32 y.pk.sc, .slice av an am, .bool y.pk.has, .int .u16 y.pk.pr, .slice be bn bm, .slice cl cn cm] rfl rfl C9.out (by kernel_rfl) rfl (all_oneCell_toArray (by simp [Value.oneCell'])) ?_
      refine ⟨laterS_mk (A9.out.rowNew (Nat.le_refl _) _), ?_⟩
      go_simp
      refine hK _ _ ?_
      clear hK K
      repeat (first | (refine tr_skip rfl rfl (laterS_mk (A9.out.rowNew (Nat.le_refl _) _)) ?_) | (refine tr_quiet rfl rfl (laterS_mk (A9.out.rowNew (Nat.le_refl _) _)) ?_; intro K hK; go_big_quiet_op; go_big_quiet_on))
      refine tr_done ?_
      go_wp2
      go_meet
      obtain ⟨f', ci', cd', css', g9⟩ := G9.out
      exact ⟨_, rfl, rfl, rfl, lnBlk C9.out _, A9.out.rowNew (Nat.le_refl _) _, f', ci', cd', css', g9.away (lnAway _ _ _) (by omega) (by omega)⟩
  case rest =>
  obtain ⟨C, rfl, rfl, rfl, cx, ax, f', ci', cd', css', gx⟩ := hcut
  have AX := Lib.hid ax
  have GX := Lib.hid gx
  have BX : Hid (wc.heap[k.L]? = some (.cells (lnCells k vo s) 76 (0, 0))) := Lib.hid (ax.blk B7.out nL)
  have x0 : wc.cell? ⟨C, 0, none⟩ = some (.int .i64 y.id) := blk_cell cx 0 rfl
  clear ax gx cx
  go_wp2
  refine bodyPost_ret (v := .tuple #[.int .i64 y.id, .bool dr, .int .i64 0]) (by simp [results, Try.results13, go_sem]) rfl ?_
  obtain ⟨⟨d1, d2, d3, d4, d5, d6⟩, ⟨e1, e2, e3, e4, e5⟩, ⟨i1, i2, i3, i4⟩, ⟨j1, j2, j3⟩, ⟨k1, k2⟩, _⟩ := D1.out
  have AS : Away (RgB k.R1 k.A1) w wc := (Away.of_more M7.out).trans AX.out
  have hmu : ∀ b, RgB k.R1 k.A1 b → k.muts b := fun b hb => Or.inr (Or.inl hb)
  have AM : Away k.muts w wc := AS.mono hmu
  have AE : Away (lnM k vo) w wc := AM.mono fun b hb => Or.inl hb
  have hv : ∀ b, vo.ownBlock = some b → vo.ownBlock = some b ∨ w.heap.size ≤ b := fun b hb => Or.inl hb
  have hE : ∀ b, RgB k.R1 k.A1 b → lnE N k vo b := fun b hb => mut_E (hmu b hb)
  have hok := H.out.ok
  have hz : W7.heap.size ≤ wc.heap.size := AX.out.size
  have hnR : ∀ b, w.heap.size ≤ b → ¬ RgB k.R1 k.A1 b := fun b hb e => by rcases e with e | e <;> omega
  have hnew : RdOff RIt (lnE (Grew N w wc) k vo) wc [.int .i64 x.id, .int .i64 x.layer, .bool x.key, .bool x.pk.mr, .int .u8 x.pk.ty, .int .u16 x.pk.sq, .int .u32 x.pk.st, .int .u32 x.pk.sc, .slice os1 x.pk.ss.length ks1, .bool x.pk.has, .int .u16 x.pk.pr, .slice oe1 x.pk.ex.length ke1, .slice ol1 x.pk.pl.length kl1] x := fun w'' a => by
    refine ⟨_, _, _, rfl, ⟨?_, ?_, ?_⟩, HK.out, HR.out⟩
    · exact H.out.fresh (vo' := vo) (S4.out.off (fun b e => hnR b (V4.out b e).1) AX.out) (fun b e => ⟨(V4.out b e).1, Nat.lt_of_lt_of_le (V4.out b e).2 hz⟩) (fun b e => e) a
    · exact H.out.fresh (vo' := vo) (S5.out.off (fun b e => hnR b (V5.out b e).1) AX.out) (fun b e => ⟨(V5.out b e).1, Nat.lt_of_lt_of_le (V5.out b e).2 hz⟩) (fun b e => e) a
    · exact H.out.fresh (vo' := vo) (S6.out.off (fun b e => hnR b (V6.out b e).1) AX.out) (fun b e => ⟨(V6.out b e).1, Nat.lt_of_lt_of_le (V6.out b e).2 hz⟩) (fun b e => e) a
  have hq := pushed (R := RIt) (D := lnE (Grew N w wc) k vo) (w := wc) (room := s.room) (AC.out.mono fun c y hy => H.out.held hy AE hv) hnew
  have hret1 : y.id = ro := by rw [HOLD.out, hq1, items_head AC.out]; exact HRO.out
  have hret2 : dr = rd := by rw [← HDR.out, hq1]; exact HRD.out
  rw [HRC.out] at hq
  rw [← hret1, ← hret2]
  exact ⟨rfl, H.out.make AM.size BX.out ⟨_, _, _, _, _, _, _, GX.out, hq⟩ (H.out.r2.step AS (by rintro (e | e) <;> omega) (by rintro (e | e) <;> omega) hE fun b hb => Or.inl (lnE_sub H.out.own hv hb)) (H.out.r3.step AS (by rintro (e | e) <;> omega) (by rintro (e | e) <;> omega) hE fun b hb => Or.inl (lnE_sub H.out.own hv hb)) (H.out.rows AM) ⟨hok.most, hok.row, hok.lt, hok.sq, hok.src⟩, AM.mono fun b hb => H.out.muts b hb⟩
/-- A lane's Put. -/
theorem put_ln (h : LnX N w k vo s) (x : ItS) (os oe ol : Option Addr) (ks ke kl : Nat) (hp : PkS w (.slice os x.pk.ss.length ks) (.slice oe x.pk.ex.length ke) (.slice ol x.pk.pl.length kl) x.pk) (hok : PkOK x.pk) (hsm : PkSm x.pk) :
    Calls Try.prog 13 #[.pointer (some ⟨k.L, 0, none⟩), .agg #[.int .i64 x.id, .int .i64 x.layer, .bool x.key, .bool x.pk.mr, .int .u8 x.pk.ty, .int .u16 x.pk.sq, .int .u32 x.pk.st, .int .u32 x.pk.sc, .slice os x.pk.ss.length ks, .bool x.pk.has, .int .u16 x.pk.pr, .slice oe x.pk.ex.length ke, .slice ol x.pk.pl.length kl]] w fun e w' => e = .returned (.tuple #[.int .i64 (putP s x).2.1, .bool (putP s x).2.2.1, .int .i64 (putP s x).2.2.2]) ∧ LnX (Grew N w w') w' k vo (putP s x).1 ∧ Away N w w' := by
  by_cases h1 : (thereL x.layer && rightH x.pk) = false
  · have e : putP s x = (s, 0, false, 1) := by unfold putP; rw [if_pos h1]
    rw [e]
    refine (put_ln_no h x os oe ol ks ke kl hp hsm 1 ?_).mono ?_
    · cases ht : thereL x.layer with
      | false => exact Or.inl ⟨rfl, rfl⟩
      | true => rw [ht] at h1; exact Or.inr (Or.inl ⟨rfl, by simpa using h1, rfl⟩)
    · rintro e w' ⟨rfl, m⟩
      exact ⟨rfl, h.grow m, Away.of_more m⟩
  · have ht : thereL x.layer = true ∧ rightH x.pk = true := by simpa using h1
    cases hg : s.gone with
    | true =>
      have e : putP s x = (s, 0, false, 7) := by unfold putP; rw [if_neg h1, if_pos hg]
      rw [e]
      refine (put_ln_no h x os oe ol ks ke kl hp hsm 7 (Or.inr (Or.inr (Or.inl ⟨ht.1, ht.2, hg, rfl⟩)))).mono ?_
      rintro e w' ⟨rfl, m⟩
      exact ⟨rfl, h.grow m, Away.of_more m⟩
    | false =>
      cases hw : s.wanted with
      | false =>
        have e : putP s x = (s, 0, false, 5) := by unfold putP; rw [if_neg h1, if_neg (by rw [hg]; decide), if_pos hw]
        rw [e]
        refine (put_ln_no h x os oe ol ks ke kl hp hsm 5 (Or.inr (Or.inr (Or.inr ⟨ht.1, ht.2, hg, hw, rfl⟩)))).mono ?_
        rintro e w' ⟨rfl, m⟩
        exact ⟨rfl, h.grow m, Away.of_more m⟩
      | true =>
        have e : putP s x = ((putL' s x).1, (putL' s x).2.1, (putL' s x).2.2, 0) := by unfold putP; rw [if_neg h1, if_neg (by rw [hg]; decide), if_neg (by rw [hw]; decide)]
        rw [e]
        have h2 := put_ln_yes h x os oe ol ks ke kl hp hok hsm ht.1 ht.2 hg hw
        by_cases hc : s.A.length < s.room
        · have e2 : putL' s x = ({ s with A := s.A ++ [x] }, 0, false) := by unfold putL'; rw [if_pos hc]
          rw [e2]
          simp only [hc, if_true, not_true, decide_false] at h2
          exact h2
        · have e2 : putL' s x = ({ s with A := s.A.tail ++ [x] }, (s.A.head?.map (·.id)).getD 0, true) := by unfold putL'; rw [if_neg hc]
          rw [e2]
          simp only [hc, if_false, not_false_iff, decide_true] at h2
          exact h2
end
end Go.Proofs.Ytdgmmffedhikcaa
