/- Merged from my texts LaneAt. -/
import Derived.Test.YtdgmmffedhikcaaMg26
import Derived.Deep.MidRow
import Derived.Deep.WholeRow
/- A lane, where it lies: its calls. (printed by gen_laneAt.py) -/
namespace Go.Proofs.Ytdgmmffedhikcaa
set_option linter.unusedSimpArgs false
set_option linter.unusedVariables false
open Go.RowKit
set_option maxRecDepth 100000

section
variable {N : Nat → Prop} {w : World} {L : Nat} {s : LnS}
theorem LnAt.lt (h : LnAt N w L s) : L < w.heap.size ∧ N L := by
  obtain ⟨k, vo, rfl, x⟩ := h
  exact ⟨blk_lt x.blk, x.muts _ (Or.inl rfl)⟩
theorem LnAt.sub (h : LnAt N w L s) : ∀ b, N b → b < w.heap.size := by
  obtain ⟨k, vo, rfl, x⟩ := h
  exact x.own
theorem gone_at (h : LnAt N w L s) : Calls Try.prog 18 #[.pointer (some ⟨L, 0, none⟩)] w fun e w' => e = .returned (.bool s.gone) ∧ More w w' := by
  obtain ⟨k, vo, rfl, x⟩ := h
  exact gone_ln x
theorem may_at (h : LnAt N w L s) (n : Int) (hn : n = 1 ∨ n = 2 ∨ n = 3) : Calls Try.prog 20 #[.pointer (some ⟨L, 0, none⟩), .int .i64 n] w fun e w' => e = .returned (.bool (mayP s n)) ∧ More w w' := by
  obtain ⟨k, vo, rfl, x⟩ := h
  rcases hn with rfl | rfl | rfl
  · exact may1_ln x
  · exact may2_ln x
  · exact may3_ln x
theorem lens_at (h : LnAt N w L s) : Calls Try.prog 12 #[.pointer (some ⟨L, 0, none⟩)] w fun e w' => e = .returned (.agg #[.int .i64 s.A.length, .int .i64 s.B.length, .int .i64 s.C.length]) ∧ More w w' := by
  obtain ⟨k, vo, rfl, x⟩ := h
  exact lens_ln x
theorem state_at (h : LnAt N w L s) : Calls Try.prog 21 #[.pointer (some ⟨L, 0, none⟩)] w fun e w' => e = .returned (.tuple #[.agg #[.int .i64 s.cur, .int .i64 s.tgt], .bool s.wanted]) ∧ More w w' := by
  obtain ⟨k, vo, rfl, x⟩ := h
  exact state_ln x
theorem want_at (h : LnAt N w L s) (n : Int) : Calls Try.prog 17 #[.pointer (some ⟨L, 0, none⟩), .int .i64 n] w fun e w' => e = .returned (.int .i64 (wantP s n).2) ∧ LnAt (Grew N w w') w' L (wantP s n).1 ∧ Away N w w' := by
  obtain ⟨k, vo, rfl, x⟩ := h
  refine (want_ln x n).mono ?_
  rintro e w' ⟨rfl, h1, h2⟩
  exact ⟨rfl, ⟨k, vo, rfl, h1⟩, h2⟩
theorem choose_at (h : LnAt N w L s) : Calls Try.prog 14 #[.pointer (some ⟨L, 0, none⟩)] w fun e w' => e = .returned (.tuple #[.int .i64 (chooseP s).2.1, .int .i64 (chooseP s).2.2.1, .bool (chooseP s).2.2.2]) ∧ LnAt (Grew N w w') w' L (chooseP s).1 ∧ Away N w w' := by
  obtain ⟨k, vo, rfl, x⟩ := h
  refine (choose_ln x).mono ?_
  rintro e w' ⟨rfl, h1, h2⟩
  exact ⟨rfl, ⟨k, vo, rfl, h1⟩, h2⟩
theorem rewrite_at (h : LnAt N w L s) : Calls Try.prog 15 #[.pointer (some ⟨L, 0, none⟩)] w fun e w' => e = .returned (.tuple #[.int .i64 (rewriteP s).2.1, .bool (rewriteP s).2.2.1, .bool (rewriteP s).2.2.2]) ∧ LnAt (Grew N w w') w' L (rewriteP s).1 ∧ Away N w w' := by
  obtain ⟨k, vo, rfl, x⟩ := h
  refine (rewrite_ln x).mono ?_
  rintro e w' ⟨rfl, h1, h2⟩
  exact ⟨rfl, ⟨k, vo, rfl, h1⟩, h2⟩
theorem write_at (h : LnAt N w L s) (hW : s.W.length ≤ 1000000) (acc : Bool) : Calls Try.prog 16 #[.pointer (some ⟨L, 0, none⟩), .bool acc] w fun e w' => e = .returned (.tuple #[.int .i64 (writeP s acc).2.1, .int .i64 (writeP s acc).2.2.1, .bool (writeP s acc).2.2.2]) ∧ LnAt (Grew N w w') w' L (writeP s acc).1 ∧ Away N w w' := by
  obtain ⟨k, vo, rfl, x⟩ := h
  refine (write_ln x hW acc).mono ?_
  rintro e w' ⟨rfl, vo', h1, h2⟩
  exact ⟨rfl, ⟨k, vo', rfl, h1⟩, h2⟩
theorem put_at (h : LnAt N w L s) (x : ItS) (os oe ol : Option Addr) (ks ke kl : Nat) (hp : PkS w (.slice os x.pk.ss.length ks) (.slice oe x.pk.ex.length ke) (.slice ol x.pk.pl.length kl) x.pk) (hok : PkOK x.pk) (hsm : PkSm x.pk) :
    Calls Try.prog 13 #[.pointer (some ⟨L, 0, none⟩), .agg #[.int .i64 x.id, .int .i64 x.layer, .bool x.key, .bool x.pk.mr, .int .u8 x.pk.ty, .int .u16 x.pk.sq, .int .u32 x.pk.st, .int .u32 x.pk.sc, .slice os x.pk.ss.length ks, .bool x.pk.has, .int .u16 x.pk.pr, .slice oe x.pk.ex.length ke, .slice ol x.pk.pl.length kl]] w fun e w' => e = .returned (.tuple #[.int .i64 (putP s x).2.1, .bool (putP s x).2.2.1, .int .i64 (putP s x).2.2.2]) ∧ LnAt (Grew N w w') w' L (putP s x).1 ∧ Away N w w' := by
  obtain ⟨k, vo, rfl, xx⟩ := h
  refine (put_ln xx x os oe ol ks ke kl hp hok hsm).mono ?_
  rintro e w' ⟨rfl, h1, h2⟩
  exact ⟨rfl, ⟨k, vo, rfl, h1⟩, h2⟩
theorem written_at (h : LnAt N w L s) (hW : s.W.length ≤ 1000000) : Calls Try.prog 23 #[.pointer (some ⟨L, 0, none⟩)] w fun e w' => (∃ v, e = .returned v ∧ RowP 2 (ROn w.heap.size) (fun b => b < w.heap.size) w' w.heap.size 78 v s.W) ∧ More w w' := by
  obtain ⟨k, vo, rfl, x⟩ := h
  exact written_ln x hW
theorem Grew.no {w' : World} {b : Nat} (h : ¬ N b) (hb : b < w.heap.size) : ¬ Grew N w w' b := by
  rintro (e | e)
  · exact h e
  · omega
theorem Grew.ge {w0 w' : World} (h : ∀ b, N b → w0.heap.size ≤ b) (hw : w0.heap.size ≤ w.heap.size) : ∀ b, Grew N w w' b → w0.heap.size ≤ b := by
  rintro b (e | e)
  · exact h b e
  · omega
theorem Away.later {w0 w' : World} (m : More w0 w) (a : Away N w w') (h : ∀ b, N b → w0.heap.size ≤ b) : More w0 w' := a.to_more m h
end

/-! Acts. -/
structure ActS where
  doo : Int
  stage : Int
  acc : Bool
  x : ItS
def pk00 : Pk := ⟨false, 0, 0, 0, 0, [], false, 0, [], []⟩
def act0 : ActS := ⟨0, 0, false, ⟨0, 0, false, pk00⟩⟩
def RAct : Reader ActS := fun w cs a => ∃ vs ve vp, cs = .int .i64 a.doo :: .int .i64 a.stage :: .bool a.acc :: itC a.x vs ve vp ∧ PkS w vs ve vp a.x.pk ∧ PkOK a.x.pk
theorem keepsAct : Keeps RAct := fun _ _ _ _ m ⟨vs, ve, vp, h1, h2, h3⟩ => ⟨vs, ve, vp, h1, h2.keep m, h3⟩
def TIt : Reader (Int × Int × Bool × Pk × Unit) := RCons 1 (RInt .i64) (RCons 1 (RInt .i64) (RCons 1 RBool (RCons 10 RPk RNil)))
def TAct : Reader (Int × Int × Bool × (Int × Int × Bool × Pk × Unit) × Unit) := RCons 1 (RInt .i64) (RCons 1 (RInt .i64) (RCons 1 RBool (RCons 13 TIt RNil)))
theorem act_of_t {w : World} {cs : List Value} {y : Int × Int × Bool × (Int × Int × Bool × Pk × Unit) × Unit} (hl : cs.length = 16) (h : TAct w cs y) : ∃ z, RAct w cs z := by
  match cs, hl with
  | [k0, k1, k2, k3, k4, k5, k6, k7, k8, k9, k10, k11, k12, k13, k14, k15], _ =>
    obtain ⟨⟨r0, _⟩, ⟨r1, _⟩, r2, ⟨⟨r3, _⟩, ⟨r4, _⟩, r5, ⟨vs, ve, vp, e, hs, hk⟩, _⟩, _⟩ := h
    simp [RBool] at r0 r1 r2 r3 r4 r5 e
    subst r0 r1 r2 r3 r4 r5
    obtain ⟨rfl, rfl, rfl, rfl, rfl, rfl, rfl, rfl, rfl, rfl⟩ := e
    exact ⟨⟨_, _, _, ⟨_, _, _, _⟩⟩, _, _, _, rfl, hs, hk⟩
theorem opensTIt : Opens Try.prog 41 TIt :=
  Opens.struct Try.underlying41 (by kernel_rfl) (OpensF.cons rfl (by kernel_rfl) (Opens.int Try.underlying3) (OpensF.cons rfl (by kernel_rfl) (Opens.int Try.underlying3) (OpensF.cons rfl (by kernel_rfl) (Opens.bool Try.underlying4) (OpensF.cons rfl (by kernel_rfl) opensPk OpensF.nil))))
theorem opensAct : Opens Try.prog 43 RAct := fun H enc w base spare held fuel cs x hx => by
  obtain ⟨y, hy⟩ := (Opens.struct (R := TAct) Try.underlying43 (by kernel_rfl) (OpensF.cons rfl (by kernel_rfl) (Opens.int Try.underlying3) (OpensF.cons rfl (by kernel_rfl) (Opens.int Try.underlying3) (OpensF.cons rfl (by kernel_rfl) (Opens.bool Try.underlying4) (OpensF.cons rfl (by kernel_rfl) opensTIt OpensF.nil))))) H enc w base spare held fuel cs x hx
  refine act_of_t ?_ hy
  obtain ⟨_, _, _, _, hl, _⟩ := DataW.trod_struct Try.underlying43 hx
  rw [hl]
  kernel_rfl
theorem acts_slP_mem {α : Type} {n : Nat} {R : Reader α} {w : World} {v : Value} {L : List α} {p : α → Prop} (h : SlP n R w v L) (k : ∀ cs y, R w cs y → p y) : ∀ y ∈ L, p y := fun y hy => by
  obtain ⟨i, hi, rfl⟩ := List.mem_iff_getElem.1 hy
  obtain ⟨_, _, _, _, h2, _⟩ := h
  obtain ⟨_, _, cs, _, _, _, _, hr⟩ := h2 i hi
  exact k cs _ hr
theorem acts {w : World} {v : Value} {l : List ActS} (h : SlP 16 RAct w v l) : ∃ oa cap, v = .slice oa l.length cap ∧ (l.length : Int) ≤ 9223372036854775807 ∧ (∀ i, i < l.length → ∃ b off os ks oe ke ol kl, oa = some ⟨b, off, none⟩ ∧ b < w.heap.size ∧
    (∀ w', More w w' → w'.rangeAt b (off + i * 16) (.int .i64 (l.getD i act0).doo :: .int .i64 (l.getD i act0).stage :: .bool (l.getD i act0).acc :: itC (l.getD i act0).x (.slice os (l.getD i act0).x.pk.ss.length ks) (.slice oe (l.getD i act0).x.pk.ex.length ke) (.slice ol (l.getD i act0).x.pk.pl.length kl))) ∧
    PkS w (.slice os (l.getD i act0).x.pk.ss.length ks) (.slice oe (l.getD i act0).x.pk.ex.length ke) (.slice ol (l.getD i act0).x.pk.pl.length kl) (l.getD i act0).x.pk) ∧ ∀ x ∈ l, PkOK x.x.pk := by
  obtain ⟨oa, cap, h1, h2, h3, h4⟩ := id h
  refine ⟨oa, cap, h1, h2, fun i hi => ?_, acts_slP_mem h (fun cs y ⟨_, _, _, _, _, k⟩ => k)⟩
  obtain ⟨b, off, cs, e, hb, hl, hc, vs, ve, vp, rfl, ⟨⟨os, ks, rfl, hs⟩, ⟨oe, ke, rfl, he⟩, ⟨ol, kl, rfl, hp⟩⟩, hk⟩ := h3 i hi
  have eg : l.getD i act0 = l[i] := by simp [hi]
  rw [eg]
  refine ⟨b, off, os, ks, oe, ke, ol, kl, e, hb, fun w' m j v hv => ?_, ⟨⟨os, ks, rfl, hs⟩, ⟨oe, ke, rfl, he⟩, ⟨ol, kl, rfl, hp⟩⟩⟩
  have hj : j < 16 := (List.getElem?_eq_some_iff.1 hv).1
  rw [m.cells b _ hb, hc j hj]
  exact hv
theorem ln_store_new {P : Program} {ops : Array Oper} {rest : List Oper} {o : Oper} {a : Act} {w : World} {Q : Exit → Act → World → Prop} (hgd : o.guard = none) (ty : TypeId) (x y : Operand) (ho : o.op = .store ty x y)
    (w0 : World) (c c' : Array Value) (hw : w = w0.alloc (.cells c ty)) (hx : a.eval x = .pointer (some ⟨w0.heap.size, 0, none⟩)) (hy : a.eval y = .agg c')
    (hi : (P.info? ty).map (·.size) = some c'.size) (hs : c.size = c'.size) (h1 : c'.all (·.oneCell') = true)
    (h : wpList P ops Q rest (a.put o.dst undef) (w0.alloc (.cells c' ty))) : wpList P ops Q (o :: rest) a w := by
  subst hw
  refine wpList_plain hgd fun K hK => ?_
  unfold Oper.wp execOp
  simp only [ho, hx, hy, Sem.run_bind, Sem.run_pure, Result.andThen_ok, run_storeAt_new w0 ty c c' hi hs h1]
  exact hK _ _ h
end Go.Proofs.Ytdgmmffedhikcaa
