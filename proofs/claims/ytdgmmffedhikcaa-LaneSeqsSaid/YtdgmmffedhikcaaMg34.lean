/- Merged from my texts HeadE, MapA. -/
import Derived.Test.YtdgmmffedhikcaaMg33
import Derived.Test.YtdgmmffedhikcaaMg1
import Derived.BigQuiet
import Derived.Test.YtdgmmffedhikcaaMg2
import Derived.Maps.RangeRun
import Derived.ChangeMaps5
/- Packets: large, own, Same. -/
namespace Go.Proofs.Ytdgmmffedhikcaa
set_option linter.unusedSimpArgs false
set_option linter.unusedVariables false
open Go.RowKit
set_option maxRecDepth 100000

theorem hd_neq (mr : Bool) (ty sq st sc : Int) (w : World) : (binOp .neq 82 (.agg #[.bool mr, .int .u8 ty, .int .u16 sq, .int .u32 st, .int .u32 sc]) (.agg #[.bool mr, .int .u8 ty, .int .u16 sq, .int .u32 st, .int .u32 sc])).run Try.prog w = .ok (.bool false) w := by
  have h1 : Try.prog.stoodInHeld 82 = false := by kernel_rfl
  rw [run_neq_struct, show (10000 : Nat) = 9999 + 1 from rfl, run_equalIn_agg w 9999 82 _ _ (by kernel_rfl) h1]
  simp [go_sem]
theorem hd_guard : Try.prog.eqGuardType Try.prog.depth 82 = false := by kernel_rfl
def LargeP (p : Pk) (w : World) (e : Ending) (w' : World) : Prop := (∃ Q, e = .returned (.bool Q) ∧ (Q = false → PkSm p)) ∧ More w w'
set_option maxHeartbeats 4000000 in
theorem Same04_eq (p : Pk) (vs ve vp vt vf vm : Value) (w : World) (h : PkS w vs ve vp p) (k : PkS w vt vf vm p) :
    Calls Try.prog 25 #[.agg #[.bool p.mr, .int .u8 p.ty, .int .u16 p.sq, .int .u32 p.st, .int .u32 p.sc, vs, .bool p.has, .int .u16 p.pr, ve, vp], .agg #[.bool p.mr, .int .u8 p.ty, .int .u16 p.sq, .int .u32 p.st, .int .u32 p.sc, vt, .bool p.has, .int .u16 p.pr, vf, vm]] w fun e w' => e = .returned (.bool true) ∧ More w w' := by
  obtain ⟨hs, he, hl⟩ := h
  obtain ⟨ks', ke', kl'⟩ := k
  have HE := Lib.hid he
  have HL := Lib.hid hl
  have KE := Lib.hid ke'
  have KL := Lib.hid kl'
  have HSs := Lib.hid hs
  have KS := Lib.hid ks'
  obtain ⟨os, ks, rfl, h63, -⟩ := hs
  obtain ⟨oe, ke, rfl, -⟩ := he
  obtain ⟨ol, kl, rfl, -⟩ := hl
  obtain ⟨ot, kt, rfl, -⟩ := ks'
  obtain ⟨of, kf, rfl, -⟩ := ke'
  obtain ⟨om, km, rfl, -⟩ := kl'
  obtain ⟨mr, ty, sq, st, sc, ss, has, pr, ex, pl⟩ := p
  simp only at *
  have QN := fun w => hd_neq mr ty sq st sc w
  have EG := hd_guard
  have hm0 := (More.alloc w (.cells #[.bool mr, .int .u8 ty, .int .u16 sq, .int .u32 st, .int .u32 sc, (.slice os ss.length ks), .bool has, .int .u16 pr, (.slice oe ex.length ke), (.slice ol pl.length kl)] 84)).al (.cells #[.bool mr, .int .u8 ty, .int .u16 sq, .int .u32 st, .int .u32 sc, (.slice ot ss.length kt), .bool has, .int .u16 pr, (.slice of ex.length kf), (.slice om pl.length km)] 84)
  have hb1 : ((w.alloc (.cells #[.bool mr, .int .u8 ty, .int .u16 sq, .int .u32 st, .int .u32 sc, (.slice os ss.length ks), .bool has, .int .u16 pr, (.slice oe ex.length ke), (.slice ol pl.length kl)] 84)).alloc (.cells #[.bool mr, .int .u8 ty, .int .u16 sq, .int .u32 st, .int .u32 sc, (.slice ot ss.length kt), .bool has, .int .u16 pr, (.slice of ex.length kf), (.slice om pl.length km)] 84)).heap[w.heap.size]? = some (.cells #[.bool mr, .int .u8 ty, .int .u16 sq, .int .u32 st, .int .u32 sc, (.slice os ss.length ks), .bool has, .int .u16 pr, (.slice oe ex.length ke), (.slice ol pl.length kl)] 84) := blk_alloc (blk_new w _) _
  have hb2 : ((w.alloc (.cells #[.bool mr, .int .u8 ty, .int .u16 sq, .int .u32 st, .int .u32 sc, (.slice os ss.length ks), .bool has, .int .u16 pr, (.slice oe ex.length ke), (.slice ol pl.length kl)] 84)).alloc (.cells #[.bool mr, .int .u8 ty, .int .u16 sq, .int .u32 st, .int .u32 sc, (.slice ot ss.length kt), .bool has, .int .u16 pr, (.slice of ex.length kf), (.slice om pl.length km)] 84)).heap[w.heap.size + 1]? = some (.cells #[.bool mr, .int .u8 ty, .int .u16 sq, .int .u32 st, .int .u32 sc, (.slice ot ss.length kt), .bool has, .int .u16 pr, (.slice of ex.length kf), (.slice om pl.length km)] 84) := blk_new2 (by simp)
  have HM0 := Lib.hid hm0
  have HB1 := Lib.hid hb1
  have HB2 := Lib.hid hb2
  clear hm0 hb1 hb2
  go_enter Try.func25, Try.ntmps25
  go_wp2
  generalize ((w.alloc (.cells #[.bool mr, .int .u8 ty, .int .u16 sq, .int .u32 st, .int .u32 sc, (.slice os ss.length ks), .bool has, .int .u16 pr, (.slice oe ex.length ke), (.slice ol pl.length kl)] 84)).alloc (.cells #[.bool mr, .int .u8 ty, .int .u16 sq, .int .u32 st, .int .u32 sc, (.slice ot ss.length kt), .bool has, .int .u16 pr, (.slice of ex.length kf), (.slice om pl.length km)] 84)) = W2 at *
  go_loopw [5] (fun i wr => ∃ j : Nat, j ≤ ss.length ∧ i = .int .i64 j ∧ More W2 wr) (fun i _ => ss.length - (intOf i).toNat)
  case atStart => exact ⟨0, by omega, rfl, More.refl _⟩
  case round =>
    obtain ⟨j, hj, rfl, hmr⟩ := hrel
    have HMR := Lib.hid hmr
    by_cases hlt : j < ss.length
    · have c1 := blk_cell (blk_more hmr HB1.out) 5 (v := .slice os ss.length ks) rfl
      have c2 := blk_cell (blk_more hmr HB2.out) 5 (v := .slice ot ss.length kt) rfl
      obtain ⟨_, _, ev1, -, el1, -⟩ := (HSs.out.keep HM0.out).keep hmr
      obtain ⟨_, _, ev2, -, el2, -⟩ := (KS.out.keep HM0.out).keep hmr
      cases ev1
      cases ev2
      obtain ⟨b1, off1, rfl, hw1, d1⟩ := el1 j hlt
      obtain ⟨b2, off2, rfl, hw2, d2⟩ := el2 j hlt
      generalize ss.getD j 0 = x at *
      have hxb : (x != x) = false := by simp
      have hjl : (j : Int) < (ss.length : Int) := by omega
      have hj0 : (0 : Int) ≤ (j : Int) := by omega
      clear el1 el2 hmr
      have n1 : w.heap.size < wr.heap.size := Nat.lt_of_lt_of_le (blk_lt HB1.out) HMR.out.size
      have n2 : w.heap.size + 1 < wr.heap.size := Nat.lt_of_lt_of_le (blk_lt HB2.out) HMR.out.size
      have C1 : ∀ x : Later wr, x.w'.cell? ⟨w.heap.size, 5, none⟩ = some (.slice (some ⟨b1, off1, none⟩) ss.length ks) := fun x => x.cell n1 c1
      have C2 : ∀ x : Later wr, x.w'.cell? ⟨w.heap.size + 1, 5, none⟩ = some (.slice (some ⟨b2, off2, none⟩) ss.length kt) := fun x => x.cell n2 c2
      have D1 : ∀ y : Later wr, y.w'.cell? ⟨b1, off1 + j, none⟩ = some (.int .u32 x) := fun y => y.cell hw1 d1
      have D2 : ∀ y : Later wr, y.w'.cell? ⟨b2, off2 + j, none⟩ = some (.int .u32 x) := fun y => y.cell hw2 d2
      go_wp2_with fail
      refine wp_region_later _ (More.refl _) (by kernel_rfl) (by kernel_rfl) ?_
      repeat (go_big_quiet_step (fail))
      refine wpQuiet_nil ?_
      intro _ hw'
      obtain ⟨x9, rfl⟩ := hw'
      go_wp2
      go_roundw
      case rel => exact ⟨j + 1, by omega, by go_num, HMR.out.trans x9.h⟩
      case measure => simp [intOf]; omega
    · obtain rfl : j = ss.length := by omega
      have B1 := Lib.hid (blk_more hmr HB1.out)
      have B2 := Lib.hid (blk_more hmr HB2.out)
      have c5 := blk_cell B1.out 5 (v := .slice os ss.length ks) rfl
      have c8 := blk_cell B1.out 8 (v := .slice oe ex.length ke) rfl
      have d8 := blk_cell B2.out 8 (v := .slice of ex.length kf) rfl
      have SE := Lib.hid ((HE.out.keep HM0.out).keep hmr)
      have SF := Lib.hid ((KE.out.keep HM0.out).keep hmr)
      have SL := Lib.hid ((HL.out.keep HM0.out).keep hmr)
      have SM := Lib.hid ((KL.out.keep HM0.out).keep hmr)
      have MF := Lib.hid (HM0.out.trans hmr)
      clear hmr
      go_wp2_with (first | (go_at_call 28; ((with_reducible refine (Same_any ex ex _ _ _ SE.out SF.out).mono ?_); rintro e w5 ⟨rfl, k5, rfl⟩; rw [decide_eq_true (rfl : ex = ex)]; have c9 := blk_cell (blk_drewN B1.out k5) 9 (v := .slice ol pl.length kl) rfl; have d9 := blk_cell (blk_drewN B2.out k5) 9 (v := .slice om pl.length km) rfl; have M5 := Lib.hid (MF.out.dr k5); have SL5 := Lib.hid (SL.out.keep (More.drewN _ k5)); have SM5 := Lib.hid (SM.out.keep (More.drewN _ k5)))) | (go_at_call 28; ((with_reducible refine (Same_any pl pl _ _ _ SL5.out SM5.out).mono ?_); rintro e w6 ⟨rfl, k6, rfl⟩; rw [decide_eq_true (rfl : pl = pl)]; have M6 := Lib.hid (M5.out.dr k6))))
      go_ret
      exact ⟨rfl, by have := M6.out; simpa using this⟩
end Go.Proofs.Ytdgmmffedhikcaa
/- Maps: what a map's block reads as, entry by entry. -/
namespace Go.Proofs.Ytdgmmffedhikcaa
set_option linter.unusedSimpArgs false
set_option linter.unusedVariables false
open Go.RowKit Go.ChangeMaps

section
variable {K V : Type} [DecidableEq K] {P : Program}

def lookI (k : K) : List (K × V) → Nat → Option (Nat × V)
  | [], _ => none
  | (a, v) :: l, i => if k = a then some (i, v) else lookI k l (i + 1)
/-- What lies under a key; laid there; taken off. -/
def mget : List (K × V) → K → Option V
  | [], _ => none
  | (a, v) :: l, k => if k = a then some v else mget l k
def mput : List (K × V) → K → V → List (K × V)
  | [], k, v => [(k, v)]
  | (a, b) :: l, k, v => if k = a then (k, v) :: l else (a, b) :: mput l k v
def mdel : List (K × V) → K → List (K × V)
  | [], _ => []
  | (a, b) :: l, k => if k = a then l else (a, b) :: mdel l k

theorem lookI_some {k : K} {v : V} : ∀ {L : List (K × V)} {i j : Nat}, lookI k L j = some (i, v) → j ≤ i ∧ L[i - j]? = some (k, v) ∧ mget L k = some v ∧ mdel L k = L.eraseIdx (i - j) ∧ ∀ u, mput L k u = L.set (i - j) (k, u)
  | [], _, _, h => by simp [lookI] at h
  | (a, b) :: l, i, j, h => by
    unfold lookI at h
    by_cases e : k = a
    · rw [if_pos e] at h
      cases h
      subst e
      simp [mget, mdel, mput]
    · rw [if_neg e] at h
      obtain ⟨h1, h2, h3, h4, h5⟩ := lookI_some h
      have e1 : i - j = (i - (j + 1)) + 1 := by omega
      refine ⟨by omega, by rw [e1]; simpa using h2, by simp [mget, e, h3], by rw [e1]; simp [mdel, e, h4], fun u => by rw [e1]; simp [mput, e, h5]⟩
theorem lookI_none {k : K} : ∀ {L : List (K × V)} {j : Nat}, lookI k L j = none → mget L k = none ∧ mdel L k = L ∧ k ∉ L.map Prod.fst ∧ ∀ u, mput L k u = L ++ [(k, u)]
  | [], _, _ => by simp [mget, mdel, mput]
  | (a, b) :: l, j, h => by
    unfold lookI at h
    by_cases e : k = a
    · rw [if_pos e] at h; cases h
    · rw [if_neg e] at h
      obtain ⟨h1, h2, h3, h4⟩ := lookI_none h
      refine ⟨by simp [mget, e, h1], by simp [mdel, e, h2], by simp [e] at h3 ⊢; exact h3, fun u => by simp [mput, e, h4]⟩
theorem lookI_get (k : K) (L : List (K × V)) (j : Nat) : (lookI k L j).map (·.2) = mget L k := by
  cases h : lookI k L j with
  | none => simp [(lookI_none h).1]
  | some x => obtain ⟨i, v⟩ := x; simp [(lookI_some h).2.2.1]

/-- Keys of a type: how they are found, and that they may be keys. -/
structure KeyOK (P : Program) (kt : TypeId) (ke : K → Value) : Prop where
  look : ∀ (V : Type) (ve : V → Value) (k : K) (L : List (K × V)) (es : List MapEntry) (w : World), es.map (fun e => (e.key, e.val)) = L.map (fun p => (ke p.1, ve p.2)) → (Instr.findKey kt (ke k) es).run P w = .ok ((lookI k L 0).map fun x => (x.1, ve x.2)) w
  check : ∀ b k w, (Instr.checkKey b 10000 kt (ke k)).run P w = .ok () w
  same : ∀ k, Instr.sameBits 10000 (ke k) (ke k) = true

theorem findNow_yes {ke : K → Value} {ve : V → Value} {kd : TypeDesc} (h : ∀ a b, Instr.sameNow kd (ke a) (ke b) = some (decide (a = b))) (k : K) : ∀ (L : List (K × V)) (es : List MapEntry) (i : Nat),
    es.map (fun e => (e.key, e.val)) = L.map (fun p => (ke p.1, ve p.2)) → Instr.findNow kd (ke k) es i = some ((lookI k L i).map fun x => (x.1, ve x.2))
  | [], [], _, _ => rfl
  | [], _ :: _, _, e => by simp at e
  | _ :: _, [], _, e => by simp at e
  | (a, v) :: l, x :: es, i, e => by
    simp only [List.map_cons, List.cons.injEq, Prod.mk.injEq] at e
    unfold Instr.findNow lookI
    rw [e.1.1, h]
    by_cases hk : k = a
    · simp [hk, e.1.2]
    · simp [hk, findNow_yes h k l es (i + 1) e.2]
omit [DecidableEq K] in
theorem findNow_no {ke : K → Value} {ve : V → Value} {kd : TypeDesc} (h : ∀ a b, Instr.sameNow kd (ke a) (ke b) = none) (k : K) : ∀ (L : List (K × V)) (es : List MapEntry) (i : Nat),
    es.map (fun e => (e.key, e.val)) = L.map (fun p => (ke p.1, ve p.2)) → Instr.findNow kd (ke k) es i = if L = [] then some none else none
  | [], [], _, _ => rfl
  | [], _ :: _, _, e => by simp at e
  | _ :: _, [], _, e => by simp at e
  | (a, v) :: l, x :: es, i, e => by
    simp only [List.map_cons, List.cons.injEq, Prod.mk.injEq] at e
    unfold Instr.findNow
    rw [e.1.1, h]
    simp
theorem findAsking_run {ke : K → Value} {ve : V → Value} {kt : TypeId} {w : World} (h : ∀ a b, (Op.equal kt (ke a) (ke b)).run P w = .ok (decide (a = b)) w) (k : K) : ∀ (L : List (K × V)) (es : List MapEntry) (i : Nat),
    es.map (fun e => (e.key, e.val)) = L.map (fun p => (ke p.1, ve p.2)) → (Instr.findAsking kt (ke k) es i).run P w = .ok ((lookI k L i).map fun x => (x.1, ve x.2)) w
  | [], [], _, _ => rfl
  | [], _ :: _, _, e => by simp at e
  | _ :: _, [], _, e => by simp at e
  | (a, v) :: l, x :: es, i, e => by
    simp only [List.map_cons, List.cons.injEq, Prod.mk.injEq] at e
    unfold Instr.findAsking lookI
    rw [Sem.run_bind, e.1.1, h]
    by_cases hk : k = a
    · simp [hk, Result.andThen, e.1.2, Sem.run, pure]
    · simp [hk, Result.andThen, findAsking_run h k l es (i + 1) e.2]
theorem KeyOK.of_now {kt : TypeId} {ke : K → Value} {kd : TypeDesc} (ht : P.underlying kt = some kd) (h : ∀ a b, Instr.sameNow kd (ke a) (ke b) = some (decide (a = b)))
    (hc : ∀ b k w, (Instr.checkKey b 10000 kt (ke k)).run P w = .ok () w) (hs : ∀ k, Instr.sameBits 10000 (ke k) (ke k) = true) : KeyOK P kt ke :=
  ⟨fun V ve k L es w e => by
    unfold Instr.findKey
    rw [Sem.run_bind, run_underlying ht]
    simp [Result.andThen, findNow_yes h k L es 0 e, Sem.run, pure], hc, hs⟩
theorem KeyOK.of_ask {kt : TypeId} {ke : K → Value} {kd : TypeDesc} (ht : P.underlying kt = some kd) (h : ∀ a b, Instr.sameNow kd (ke a) (ke b) = none) (hq : ∀ a b w, (Op.equal kt (ke a) (ke b)).run P w = .ok (decide (a = b)) w)
    (hc : ∀ b k w, (Instr.checkKey b 10000 kt (ke k)).run P w = .ok () w) (hs : ∀ k, Instr.sameBits 10000 (ke k) (ke k) = true) : KeyOK P kt ke :=
  ⟨fun V ve k L es w e => by
    unfold Instr.findKey
    rw [Sem.run_bind, run_underlying ht]
    simp only [Result.andThen, findNow_no h k L es 0 e]
    by_cases hL : L = []
    · subst hL
      simp [lookI, Sem.run, pure]
    · simp [hL, findAsking_run (fun a b => hq a b w) k L es 0 e], hc, hs⟩

/-- Block b is a map that reads as L. -/
structure MapAt (w : World) (b : Nat) (ke : K → Value) (ve : V → Value) (L : List (K × V)) : Prop where
  ex : ∃ es clock, w.heap[b]? = some (.map es clock) ∧ es.toList.map (fun e => (e.key, e.val)) = L.map (fun p => (ke p.1, ve p.2)) ∧ (es.toList.map (·.born)).Nodup ∧ ∀ e ∈ es.toList, e.born < clock
  keys : (L.map Prod.fst).Nodup
variable {w : World} {b : Nat} {ke : K → Value} {ve : V → Value} {L : List (K × V)}
omit [DecidableEq K] in
theorem MapAt.lt (h : MapAt w b ke ve L) : b < w.heap.size := by obtain ⟨⟨_, _, hb, _⟩, _⟩ := h; exact lt_of_block hb
omit [DecidableEq K] in
theorem MapAt.made (w : World) (ke : K → Value) (ve : V → Value) : MapAt (w.alloc (.map #[] 0)) w.heap.size ke ve [] :=
  ⟨⟨#[], 0, blk_new _ _, rfl, by simp, by simp⟩, by simp⟩
omit [DecidableEq K] in
theorem MapAt.away {w' : World} {S : Nat → Prop} (h : MapAt w b ke ve L) (m : Away S w w') (hs : ¬ S b) : MapAt w' b ke ve L := by
  obtain ⟨⟨es, c, hb, r⟩, k⟩ := h
  exact ⟨⟨es, c, m.blk hb hs, r⟩, k⟩
omit [DecidableEq K] in
theorem MapAt.more {w' : World} (h : MapAt w b ke ve L) (m : More w w') : MapAt w' b ke ve L := h.away (Away.of_more (S := fun _ => False) m) (fun x => x)
theorem run_setObj_map {w : World} {b : Nat} {es : Array MapEntry} {c : Nat} (hb : w.heap[b]? = some (.map es c)) (o' : Obj) : (setObj b o').run P w = .ok () (setBlock w b o') := by
  simp [setObj, Sem.run, hb, setBlock]
theorem run_getObj_map {w : World} {b : Nat} {es : Array MapEntry} {c : Nat} (hb : w.heap[b]? = some (.map es c)) : (getObj b).run P w = .ok (.map es c) w := by
  simp [getObj, Sem.run, hb]
theorem away_setBlock (w : World) (b : Nat) (o : Obj) : Away (fun x => x = b) w (setBlock w b o) :=
  ⟨rfl, rfl, rfl, by simp [setBlock], fun k _ hs => by
    simp only [setBlock]
    rw [Array.getElem?_setIfInBounds_ne (fun e => hs e.symm)]⟩
theorem setBlock_size (w : World) (b : Nat) (o : Obj) : (setBlock w b o).heap.size = w.heap.size := by simp [setBlock]

theorem MapAt.look {kt et t : TypeId} {z : Value} (h : MapAt w b ke ve L) (KO : KeyOK P kt ke) (ht : P.underlying t = some (.map kt et)) (hz : (zeroValue et).run P w = .ok z w) (k : K) (c : Bool) :
    (Instr.lookup t (.map (some b)) (ke k) c).run P w = .ok (if c then .tuple #[((mget L k).map ve).getD z, .bool (mget L k).isSome] else ((mget L k).map ve).getD z) w := by
  obtain ⟨⟨es, cl, hb, he, _⟩, _⟩ := h
  have hl := KO.look V ve k L es.toList w he
  have hg := lookI_get k L 0
  unfold Instr.lookup
  cases hq : lookI k L 0 with
  | none =>
    rw [hq] at hl hg
    simp only [Option.map_none] at hl hg
    simp [run_underlying ht, run_getObj_map hb, KO.check, hl, hz, ← hg, go_sem]
  | some x =>
    rw [hq] at hl hg
    simp only [Option.map_some] at hl hg
    simp [run_underlying ht, run_getObj_map hb, KO.check, hl, ← hg, go_sem]

theorem list_modify_map {es : List MapEntry} {i : Nat} {k v : Value} : (es.modify i fun e => { e with key := k, val := v }).map (fun e => (e.key, e.val)) = (es.map fun e => (e.key, e.val)).set i (k, v) := by
  induction es generalizing i with
  | nil => simp
  | cons x l ih =>
    cases i with
    | zero => simp [List.modify_cons]
    | succ i => simp [ih]
theorem list_modify_born {es : List MapEntry} {i : Nat} {k v : Value} : (es.modify i fun e => { e with key := k, val := v }).map (·.born) = es.map (·.born) := by
  induction es generalizing i with
  | nil => simp
  | cons x l ih =>
    cases i with
    | zero => simp [List.modify_cons]
    | succ i => simp [ih]
omit [DecidableEq K] in
theorem mput_keys_some {k : K} {u : V} {i : Nat} {v : V} (h : L[i]? = some (k, v)) : ((L.set i (k, u)).map Prod.fst) = L.map Prod.fst := by
  rw [List.map_set]
  refine List.ext_getElem? fun j => ?_
  rw [List.getElem?_set]
  by_cases hj : i = j
  · subst hj
    have hi : i < L.length := (List.getElem?_eq_some_iff.1 h).1
    have e := (List.getElem?_eq_some_iff.1 h).2
    simp [hi, e]
  · simp [hj]
theorem MapAt.update {kt et t : TypeId} (h : MapAt w b ke ve L) (KO : KeyOK P kt ke) (ht : P.underlying t = some (.map kt et)) (k : K) (u : V) :
    ∃ w', (Instr.mapUpdate t (.map (some b)) (ke k) (ve u)).run P w = .ok () w' ∧ MapAt w' b ke ve (mput L k u) ∧ Away (fun x => x = b) w w' ∧ w'.heap.size = w.heap.size := by
  obtain ⟨⟨es, cl, hb, he, hn, hc⟩, hk⟩ := h
  have hl := KO.look V ve k L es.toList w he
  unfold Instr.mapUpdate
  cases hq : lookI k L 0 with
  | none =>
    rw [hq] at hl
    simp only [Option.map_none] at hl
    obtain ⟨h1, h2, h3, h4⟩ := lookI_none hq
    refine ⟨setBlock w b (.map (es.push { key := ke k, val := ve u, born := cl }) (cl + 1)), ?_, ⟨⟨_, _, heap_setBlock_same hb _, ?_, ?_, ?_⟩, ?_⟩, away_setBlock _ _ _, setBlock_size _ _ _⟩
    · simp [run_underlying ht, run_getObj_map hb, KO.check, hl, run_setObj_map hb, go_sem]
    · rw [h4]; simp [he]
    · simp only [Array.toList_push, List.map_append, List.map_cons, List.map_nil]
      rw [List.nodup_append]
      refine ⟨hn, by simp, fun a ha c hc' => ?_⟩
      obtain ⟨e, he', rfl⟩ := List.mem_map.1 ha
      have := hc e he'
      simp at hc'
      omega
    · intro e he'
      simp at he'
      rcases he' with he' | rfl
      · have := hc e (by simpa using he'); omega
      · exact Nat.lt_succ_self _
    · rw [h4]
      rw [List.map_append, List.nodup_append]
      refine ⟨hk, by simp, fun a ha c hc' => ?_⟩
      simp at hc'
      subst hc'
      intro e
      subst e
      exact h3 ha
  | some x =>
    obtain ⟨i, v⟩ := x
    rw [hq] at hl
    simp only [Option.map_some] at hl
    obtain ⟨h1, h2, h3, h4, h5⟩ := lookI_some hq
    simp only [Nat.sub_zero] at h2 h4 h5
    have hi : (es.toList.map (fun e => (e.key, e.val)))[i]? = some (ke k, ve v) := by rw [he, List.getElem?_map, h2]; rfl
    rw [List.getElem?_map] at hi
    obtain ⟨e0, g0, g1⟩ := Option.map_eq_some_iff.1 hi
    have g2 : es[i]? = some e0 := by simpa using g0
    have g3 : e0.key = ke k := congrArg Prod.fst g1
    have hst : (Instr.keyThatStays (((es[i]?).map (·.key)).getD (ke k)) (ke k)).run P w = .ok (ke k) w := by
      rw [g2]
      simp only [Option.map_some, Option.getD_some, g3]
      unfold Instr.keyThatStays
      rw [KO.same]
      rfl
    refine ⟨setBlock w b (.map (es.modify i fun e => { e with key := ke k, val := ve u }) cl), ?_, ⟨⟨_, _, heap_setBlock_same hb _, ?_, ?_, ?_⟩, ?_⟩, away_setBlock _ _ _, setBlock_size _ _ _⟩
    · simp only [run_underlying ht, run_getObj_map hb, KO.check, hl, Sem.run_bind, Result.andThen, hst, run_setObj_map hb]
    · rw [h5, Array.toList_modify, list_modify_map, he, List.map_set]
    · rw [Array.toList_modify, list_modify_born]; exact hn
    · intro e he'
      have hm : e.born ∈ ((es.modify i fun e => { e with key := ke k, val := ve u }).toList.map (·.born)) := List.mem_map_of_mem he'
      rw [Array.toList_modify, list_modify_born] at hm
      obtain ⟨e1, m1, m2⟩ := List.mem_map.1 hm
      rw [← m2]
      exact hc e1 m1
    · rw [h5, mput_keys_some h2]; exact hk
end
end Go.Proofs.Ytdgmmffedhikcaa
