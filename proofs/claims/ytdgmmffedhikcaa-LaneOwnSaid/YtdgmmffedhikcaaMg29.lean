/- Merged from my texts LaneHd, ArrQ, LaneEq, LaneAw. -/
import Derived.Test.YtdgmmffedhikcaaMg28
import Derived.Test.YtdgmmffedhikcaaMg2
import Derived.ChangeKeysEq
import Derived.Deep.Cut
import Derived.Deep.CutRange
import Derived.Deep.CutBlock
/- A lane that a law holds, beside blocks of its own. (printed by gen_laneHd.py) -/
namespace Go.Proofs.Ytdgmmffedhikcaa
set_option linter.unusedSimpArgs false
set_option linter.unusedVariables false
open Go.RowKit
set_option maxRecDepth 100000

/-- A lane that was made since w0; F: blocks of the law's own, made since w0, too. -/
def LnH (w0 w : World) (L : Nat) (s : LnS) (F : List Nat) : Prop :=
  ∃ N, LnAt N w L s ∧ (∀ b, N b → w0.heap.size ≤ b) ∧ (∀ b ∈ F, ¬ N b ∧ w0.heap.size ≤ b ∧ b < w.heap.size) ∧ More w0 w
def Stay (F : List Nat) (w w' : World) : Prop := w.heap.size ≤ w'.heap.size ∧ ∀ b ∈ F, w'.heap[b]? = w.heap[b]?
section
variable {w0 w w' : World} {L : Nat} {s s' : LnS} {F : List Nat} {N : Nat → Prop}
theorem Stay.refl (F : List Nat) (w : World) : Stay F w w := ⟨Nat.le_refl _, fun _ _ => rfl⟩
theorem Stay.trans {w'' : World} (h : Stay F w w') (k : Stay F w' w'') : Stay F w w'' := ⟨Nat.le_trans h.1 k.1, fun b hb => (k.2 b hb).trans (h.2 b hb)⟩
theorem LnH.more (h : LnH w0 w L s F) : More w0 w := h.elim fun _ h => h.2.2.2
theorem LnH.fit (h : LnH w0 w L s F) : s.A.length ≤ s.room ∧ s.B.length ≤ s.room ∧ s.C.length ≤ s.room ∧ 1 ≤ s.room ∧ s.room ≤ 8 := h.elim fun _ h => h.1.fits
theorem LnH.ok (h : LnH w0 w L s F) : LnOK s := h.elim fun _ h => h.1.ok
theorem LnH.lt (h : LnH w0 w L s F) : L < w.heap.size := h.elim fun _ h => h.1.lt.1
theorem LnH.own (h : LnH w0 w L s F) : ∀ b ∈ F, w0.heap.size ≤ b ∧ b < w.heap.size := h.elim fun _ h b hb => (h.2.2.1 b hb).2
theorem LnH.ne (h : LnH w0 w L s F) : ∀ b ∈ F, b ≠ L := h.elim fun _ h b hb e => (h.2.2.1 b hb).1 (by rw [e]; exact h.1.lt.2)
theorem LnH.on (h : LnH w0 w L s F) (m : More w w') : LnH w0 w' L s F := by
  obtain ⟨N, l, h1, h2, h3⟩ := h
  exact ⟨N, l.on m, h1, fun b hb => ⟨(h2 b hb).1, (h2 b hb).2.1, Nat.lt_of_lt_of_le (h2 b hb).2.2 m.size⟩, h3.trans m⟩
theorem Stay.on (h : LnH w0 w L s F) (m : More w w') : Stay F w w' := by
  obtain ⟨N, l, h1, h2, h3⟩ := h
  exact ⟨m.size, fun b hb => m.block b (h2 b hb).2.2⟩
theorem LnH.add (h : LnH w0 w L s F) (m : More w w') {b : Nat} (hb : w.heap.size ≤ b) (hb' : b < w'.heap.size) : LnH w0 w' L s (b :: F) := by
  have h' := h.on m
  obtain ⟨N, l, h1, h2, h3⟩ := h
  refine ⟨N, l.on m, h1, fun c hc => ?_, h3.trans m⟩
  rcases List.mem_cons.1 hc with rfl | hc
  · exact ⟨fun e => by have := l.sub _ e; omega, Nat.le_trans h3.size hb, hb'⟩
  · exact ⟨(h2 c hc).1, (h2 c hc).2.1, Nat.lt_of_lt_of_le (h2 c hc).2.2 m.size⟩
theorem LnH.sub {F' : List Nat} (h : LnH w0 w L s F) (hs : ∀ b ∈ F', b ∈ F) : LnH w0 w L s F' := by
  obtain ⟨N, l, h1, h2, h3⟩ := h
  exact ⟨N, l, h1, fun b hb => h2 b (hs b hb), h3⟩
/-- The law writes into blocks of its own. -/
theorem LnH.mut (h : LnH w0 w L s F) (a : Away (fun b => b ∈ F) w w') : LnH w0 w' L s F := by
  obtain ⟨N, l, h1, h2, h3⟩ := h
  exact ⟨N, l.away a (fun b hb => (h2 b hb).1), h1, fun b hb => ⟨(h2 b hb).1, (h2 b hb).2.1, Nat.lt_of_lt_of_le (h2 b hb).2.2 a.size⟩, a.to_more h3 (fun b hb => (h2 b hb).2.1)⟩
theorem LnH.step (r : (∀ b, N b → w0.heap.size ≤ b) ∧ (∀ b ∈ F, ¬ N b ∧ w0.heap.size ≤ b ∧ b < w.heap.size) ∧ More w0 w) (l : LnAt N w L s) (l' : LnAt (Grew N w w') w' L s') (a : Away N w w') : LnH w0 w' L s' F := by
  obtain ⟨h1, h2, h3⟩ := r
  exact ⟨_, l', Grew.ge h1 h3.size, fun b hb => ⟨Grew.no (h2 b hb).1 (h2 b hb).2.2, (h2 b hb).2.1, Nat.lt_of_lt_of_le (h2 b hb).2.2 a.size⟩, a.to_more h3 h1⟩
theorem Stay.step (r : (∀ b, N b → w0.heap.size ≤ b) ∧ (∀ b ∈ F, ¬ N b ∧ w0.heap.size ≤ b ∧ b < w.heap.size) ∧ More w0 w) (l : LnAt N w L s) (a : Away N w w') : Stay F w w' := by
  obtain ⟨h1, h2, h3⟩ := r
  exact ⟨a.size, fun b hb => a.block b (h2 b hb).2.2 (h2 b hb).1⟩
theorem Stay.blk {b : Nat} {o : Obj} (h : Stay F w w') (hb : b ∈ F) (k : w.heap[b]? = some o) : w'.heap[b]? = some o := by rw [h.2 b hb]; exact k
theorem new_h (w0 w : World) (m0 : More w0 w) (m mo src sq st : Int) (n : Nat) (hmn : m = n) (h1 : 1 ≤ n) (h2 : n ≤ 8) (h3 : 1 ≤ mo) (h4 : mo ≤ 10) (hq : U16 sq) (hs : U32 src) : Calls Try.prog 10 #[.agg #[.int .i64 m, .int .i64 mo, .int .u32 src, .int .u16 sq, .int .u32 st]] w fun e w' => ∃ L, e = .returned (.tuple #[.pointer (some ⟨L, 0, none⟩), .int .i64 0]) ∧ LnH w0 w' L (newL n mo src sq st) [] ∧ More w w' := by
  refine (new_ln m mo src sq st n hmn h1 h2 h3 h4 hq hs w).mono ?_
  rintro e w' ⟨L, rfl, l, mm⟩
  exact ⟨L, rfl, ⟨_, l, fun b hb => Nat.le_trans m0.size hb.1, fun b hb => by simp at hb, m0.trans mm⟩, mm⟩
theorem gone_h (h : LnH w0 w L s F) : Calls Try.prog 18 #[.pointer (some ⟨L, 0, none⟩)] w fun e w' => e = .returned (.bool s.gone) ∧ LnH w0 w' L s F ∧ Stay F w w' := by
  obtain ⟨N, l, r⟩ := h
  refine (gone_at l).mono ?_
  rintro e w' ⟨rfl, m⟩
  exact ⟨rfl, LnH.on ⟨N, l, r⟩ m, Stay.on ⟨N, l, r⟩ m⟩
theorem may_h (h : LnH w0 w L s F) (n : Int) (hn : n = 1 ∨ n = 2 ∨ n = 3) : Calls Try.prog 20 #[.pointer (some ⟨L, 0, none⟩), .int .i64 n] w fun e w' => e = .returned (.bool (mayP s n)) ∧ LnH w0 w' L s F ∧ Stay F w w' := by
  obtain ⟨N, l, r⟩ := h
  refine (may_at l n hn).mono ?_
  rintro e w' ⟨rfl, m⟩
  exact ⟨rfl, LnH.on ⟨N, l, r⟩ m, Stay.on ⟨N, l, r⟩ m⟩
theorem lens_h (h : LnH w0 w L s F) : Calls Try.prog 12 #[.pointer (some ⟨L, 0, none⟩)] w fun e w' => e = .returned (.agg #[.int .i64 s.A.length, .int .i64 s.B.length, .int .i64 s.C.length]) ∧ LnH w0 w' L s F ∧ Stay F w w' := by
  obtain ⟨N, l, r⟩ := h
  refine (lens_at l).mono ?_
  rintro e w' ⟨rfl, m⟩
  exact ⟨rfl, LnH.on ⟨N, l, r⟩ m, Stay.on ⟨N, l, r⟩ m⟩
theorem state_h (h : LnH w0 w L s F) : Calls Try.prog 21 #[.pointer (some ⟨L, 0, none⟩)] w fun e w' => e = .returned (.tuple #[.agg #[.int .i64 s.cur, .int .i64 s.tgt], .bool s.wanted]) ∧ LnH w0 w' L s F ∧ Stay F w w' := by
  obtain ⟨N, l, r⟩ := h
  refine (state_at l).mono ?_
  rintro e w' ⟨rfl, m⟩
  exact ⟨rfl, LnH.on ⟨N, l, r⟩ m, Stay.on ⟨N, l, r⟩ m⟩
theorem want_h (h : LnH w0 w L s F) (n : Int) : Calls Try.prog 17 #[.pointer (some ⟨L, 0, none⟩), .int .i64 n] w fun e w' => e = .returned (.int .i64 (wantP s n).2) ∧ LnH w0 w' L (wantP s n).1 F ∧ Stay F w w' := by
  obtain ⟨N, l, r⟩ := h
  refine (want_at l n).mono ?_
  rintro e w' ⟨rfl, l', a⟩
  exact ⟨rfl, LnH.step r l l' a, Stay.step r l a⟩
theorem choose_h (h : LnH w0 w L s F) : Calls Try.prog 14 #[.pointer (some ⟨L, 0, none⟩)] w fun e w' => e = .returned (.tuple #[.int .i64 (chooseP s).2.1, .int .i64 (chooseP s).2.2.1, .bool (chooseP s).2.2.2]) ∧ LnH w0 w' L (chooseP s).1 F ∧ Stay F w w' := by
  obtain ⟨N, l, r⟩ := h
  refine (choose_at l).mono ?_
  rintro e w' ⟨rfl, l', a⟩
  exact ⟨rfl, LnH.step r l l' a, Stay.step r l a⟩
theorem rewrite_h (h : LnH w0 w L s F) : Calls Try.prog 15 #[.pointer (some ⟨L, 0, none⟩)] w fun e w' => e = .returned (.tuple #[.int .i64 (rewriteP s).2.1, .bool (rewriteP s).2.2.1, .bool (rewriteP s).2.2.2]) ∧ LnH w0 w' L (rewriteP s).1 F ∧ Stay F w w' := by
  obtain ⟨N, l, r⟩ := h
  refine (rewrite_at l).mono ?_
  rintro e w' ⟨rfl, l', a⟩
  exact ⟨rfl, LnH.step r l l' a, Stay.step r l a⟩
theorem write_h (h : LnH w0 w L s F) (hW : s.W.length ≤ 1000000) (acc : Bool) : Calls Try.prog 16 #[.pointer (some ⟨L, 0, none⟩), .bool acc] w fun e w' => e = .returned (.tuple #[.int .i64 (writeP s acc).2.1, .int .i64 (writeP s acc).2.2.1, .bool (writeP s acc).2.2.2]) ∧ LnH w0 w' L (writeP s acc).1 F ∧ Stay F w w' := by
  obtain ⟨N, l, r⟩ := h
  refine (write_at l hW acc).mono ?_
  rintro e w' ⟨rfl, l', a⟩
  exact ⟨rfl, LnH.step r l l' a, Stay.step r l a⟩
theorem put_h (h : LnH w0 w L s F) (x : ItS) (os oe ol : Option Addr) (ks ke kl : Nat) (hp : PkS w (.slice os x.pk.ss.length ks) (.slice oe x.pk.ex.length ke) (.slice ol x.pk.pl.length kl) x.pk) (hok : PkOK x.pk) (hsm : PkSm x.pk) : Calls Try.prog 13 #[.pointer (some ⟨L, 0, none⟩), .agg #[.int .i64 x.id, .int .i64 x.layer, .bool x.key, .bool x.pk.mr, .int .u8 x.pk.ty, .int .u16 x.pk.sq, .int .u32 x.pk.st, .int .u32 x.pk.sc, .slice os x.pk.ss.length ks, .bool x.pk.has, .int .u16 x.pk.pr, .slice oe x.pk.ex.length ke, .slice ol x.pk.pl.length kl]] w fun e w' => e = .returned (.tuple #[.int .i64 (putP s x).2.1, .bool (putP s x).2.2.1, .int .i64 (putP s x).2.2.2]) ∧ LnH w0 w' L (putP s x).1 F ∧ Stay F w w' := by
  obtain ⟨N, l, r⟩ := h
  refine (put_at l x os oe ol ks ke kl hp hok hsm).mono ?_
  rintro e w' ⟨rfl, l', a⟩
  exact ⟨rfl, LnH.step r l l' a, Stay.step r l a⟩
theorem do_h (h : LnH w0 w L s F) (hW : s.W.length ≤ 1000000) (d g : Int) (c : Bool) (x : ItS) (id : Int) (os oe ol : Option Addr) (ks ke kl : Nat) (hp : PkS w (.slice os x.pk.ss.length ks) (.slice oe x.pk.ex.length ke) (.slice ol x.pk.pl.length kl) x.pk) (hok : PkOK x.pk) (hsm : PkSm x.pk) : Calls Try.prog 19 #[.pointer (some ⟨L, 0, none⟩), .agg #[.int .i64 d, .int .i64 g, .bool c, .int .i64 x.id, .int .i64 x.layer, .bool x.key, .bool x.pk.mr, .int .u8 x.pk.ty, .int .u16 x.pk.sq, .int .u32 x.pk.st, .int .u32 x.pk.sc, .slice os x.pk.ss.length ks, .bool x.pk.has, .int .u16 x.pk.pr, .slice oe x.pk.ex.length ke, .slice ol x.pk.pl.length kl], .int .i64 id] w fun e w' => e = .returned (.bool (doP s ⟨d, g, c, x⟩ id).2) ∧ LnH w0 w' L (doP s ⟨d, g, c, x⟩ id).1 F ∧ Stay F w w' := by
  obtain ⟨N, l, r⟩ := h
  refine (do_at l hW d g c x id os oe ol ks ke kl hp hok hsm).mono ?_
  rintro e w' ⟨rfl, l', a⟩
  exact ⟨rfl, LnH.step r l l' a, Stay.step r l a⟩
theorem written_h (h : LnH w0 w L s F) (hW : s.W.length ≤ 1000000) : Calls Try.prog 23 #[.pointer (some ⟨L, 0, none⟩)] w fun e w' => (∃ v, e = .returned v ∧ RowP 2 (ROn w.heap.size) (fun b => b < w.heap.size) w' w.heap.size 78 v s.W) ∧ LnH w0 w' L s F ∧ Stay F w w' ∧ More w w' := by
  obtain ⟨N, l, r⟩ := h
  refine (written_at l hW).mono ?_
  rintro e w' ⟨h1, m⟩
  exact ⟨h1, LnH.on ⟨N, l, r⟩ m, Stay.on ⟨N, l, r⟩ m, m⟩
end
end Go.Proofs.Ytdgmmffedhikcaa
/- Arrays of integers, compared. -/
namespace Go.Proofs.Ytdgmmffedhikcaa
set_option linter.unusedSimpArgs false
set_option linter.unusedVariables false
open Go.RowKit

section
variable {P : Program} {t e : TypeId} {q : IntKind}
theorem equal_one (he : P.underlying e = some (.int q)) (n : Nat) (a b : Int) (w : World) : (Op.equalIn (n + 1) e (.int q a) (.int q b)).run P w = .ok (decide (a = b)) w := by
  unfold Op.equalIn
  rw [Sem.run_bind, run_underlying he]
  simp [Result.andThen, Sem.run, pure]
  rw [Bool.eq_iff_iff]; simp
theorem part_one (hA : ∀ w, (isAgg e).run P w = .ok false w) (cs : Array Value) (i : Nat) (v : Value) (w : World) (h : cs[i]? = some v) : (part e cs i).run P w = .ok v w := by
  unfold part
  rw [Sem.run_bind, hA]
  simp [Result.andThen, h, Sem.run, pure]
theorem items_ints (he : P.underlying e = some (.int q)) (hA : ∀ w, (isAgg e).run P w = .ok false w) (n : Nat) (la lb : List Int) (w : World) : ∀ (is : List Nat), (∀ i ∈ is, i < la.length ∧ i < lb.length) →
    (Op.eqItems (n + 1) e 1 (la.map (Value.int q)).toArray (lb.map (Value.int q)).toArray is).run P w = .ok (decide (∀ i ∈ is, la.getD i 0 = lb.getD i 0)) w
  | [], _ => by simp [Op.eqItems, Sem.run, pure]
  | i :: is, h => by
    obtain ⟨h1, h2⟩ := h i List.mem_cons_self
    have ih := items_ints he hA n la lb w is (fun j hj => h j (List.mem_cons_of_mem _ hj))
    unfold Op.eqItems
    rw [Sem.run_bind, part_one hA _ _ (.int q (la.getD i 0)) w (by simp [h1])]
    simp only [Result.andThen_ok]
    rw [Sem.run_bind, part_one hA _ _ (.int q (lb.getD i 0)) w (by simp [h2])]
    simp only [Result.andThen_ok]
    rw [Sem.run_bind, equal_one he]
    simp only [Result.andThen_ok]
    by_cases e : la.getD i 0 = lb.getD i 0
    · rw [decide_eq_true e]
      simp only [Bool.not_true, Bool.false_eq_true, if_false, ih]
      congr 1
      rw [Bool.eq_iff_iff]
      simp only [decide_eq_true_eq, List.forall_mem_cons]
      exact ⟨fun h => ⟨e, h⟩, fun h => h.2⟩
    · rw [decide_eq_false e]
      simp only [Bool.not_false, if_true]
      have : ¬ ∀ j ∈ i :: is, la.getD j 0 = lb.getD j 0 := fun h => e (h i List.mem_cons_self)
      rw [decide_eq_false this]
      rfl
theorem list_ext {n : Nat} {la lb : List Int} (ha : la.length = n) (hb : lb.length = n) : (∀ i ∈ List.range n, la.getD i 0 = lb.getD i 0) ↔ la = lb := by
  constructor
  · intro h
    refine List.ext_getElem (by omega) fun i h1 h2 => ?_
    have := h i (List.mem_range.2 (by omega))
    simpa [h1, h2] using this
  · rintro rfl i _
    rfl
theorem arr_eql {n : Nat} {i : TypeInfo} (ht : P.underlying t = some (.array n e)) (hi : P.info? e = some i) (hc : P.cellsOf e = 1) (he : P.underlying e = some (.int q)) (hA : ∀ w, (isAgg e).run P w = .ok false w) (la lb : List Int) (ha : la.length = n) (hb : lb.length = n) (w : World) :
    (binOp .eql t (.agg (la.map (Value.int q)).toArray) (.agg (lb.map (Value.int q)).toArray)).run P w = .ok (.bool (decide (la = lb))) w := by
  rw [run_eql_struct, show (10000 : Nat) = 9998 + 1 + 1 from rfl, run_equalIn_array w (9998 + 1) _ _ ht hi, hc, items_ints he hA 9998 la lb w _ (fun i hi => by have := List.mem_range.1 hi; omega)]
  simp only [Result.andThen_ok]
  congr 2
  rw [Bool.eq_iff_iff]
  simp only [decide_eq_true_eq]
  exact list_ext ha hb
theorem arr_neq {n : Nat} {i : TypeInfo} (ht : P.underlying t = some (.array n e)) (hi : P.info? e = some i) (hc : P.cellsOf e = 1) (he : P.underlying e = some (.int q)) (hA : ∀ w, (isAgg e).run P w = .ok false w) (la lb : List Int) (ha : la.length = n) (hb : lb.length = n) (w : World) :
    (binOp .neq t (.agg (la.map (Value.int q)).toArray) (.agg (lb.map (Value.int q)).toArray)).run P w = .ok (.bool (!decide (la = lb))) w := by
  rw [run_neq_struct, show (10000 : Nat) = 9998 + 1 + 1 from rfl, run_equalIn_array w (9998 + 1) _ _ ht hi, hc, items_ints he hA 9998 la lb w _ (fun i hi => by have := List.mem_range.1 hi; omega)]
  simp only [Result.andThen_ok]
  congr 3
  rw [Bool.eq_iff_iff]
  simp only [decide_eq_true_eq]
  exact list_ext ha hb
end
end Go.Proofs.Ytdgmmffedhikcaa
/- Three lengths, compared. -/
namespace Go.Proofs.Ytdgmmffedhikcaa
set_option linter.unusedSimpArgs false
set_option linter.unusedVariables false
open Go.RowKit
set_option maxRecDepth 100000

theorem len3_eql (a b c x y z : Int) (w : World) : (binOp .eql 44 (.agg #[.int .i64 a, .int .i64 b, .int .i64 c]) (.agg #[.int .i64 x, .int .i64 y, .int .i64 z])).run Try.prog w = .ok (.bool (decide ([a, b, c] = [x, y, z]))) w := by
  obtain ⟨i, hi⟩ : ∃ i, Try.prog.info? 3 = some i := ⟨_, rfl⟩
  exact arr_eql (la := [a, b, c]) (lb := [x, y, z]) Try.underlying44 hi (by kernel_rfl) Try.underlying3 Try.isAgg3 rfl rfl w
theorem len3_neq (a b c x y z : Int) (w : World) : (binOp .neq 44 (.agg #[.int .i64 a, .int .i64 b, .int .i64 c]) (.agg #[.int .i64 x, .int .i64 y, .int .i64 z])).run Try.prog w = .ok (.bool (!decide ([a, b, c] = [x, y, z]))) w := by
  obtain ⟨i, hi⟩ : ∃ i, Try.prog.info? 3 = some i := ⟨_, rfl⟩
  exact arr_neq (la := [a, b, c]) (lb := [x, y, z]) Try.underlying44 hi (by kernel_rfl) Try.underlying3 Try.isAgg3 rfl rfl w
end Go.Proofs.Ytdgmmffedhikcaa
/- The laws of lane: awake. (printed by gen_laneAw.py) -/
namespace Go.Proofs.Ytdgmmffedhikcaa
set_option linter.unusedSimpArgs false
set_option linter.unusedVariables false
open Go.RowKit
set_option maxRecDepth 100000

abbrev awX : ItS := ⟨5, 0, true, ⟨false, 0, 1, 2, 3, [], false, 0, [], [4]⟩⟩
def awS0 : LnS := newL 2 1 7 9 100
def awS1 : LnS := { awS0 with wanted := true, cur := -1, tgt := 0 }
def awS2 : LnS := { awS1 with A := [awX] }
def awS3 : LnS := { awS1 with B := [(awX, true)], cur := 0 }
def awS4 : LnS := { awS1 with C := [(5, [128, 0, 0, 9, 0, 0, 0, 100, 0, 0, 0, 7, 4])], cur := 0, rw := ⟨7, 10, 100, true, 100, 98⟩ }
def awS5 : LnS := { awS1 with W := [(5, [128, 0, 0, 9, 0, 0, 0, 100, 0, 0, 0, 7, 4])], cur := 0, rw := ⟨7, 10, 100, true, 100, 98⟩ }
theorem aw1 : putP awS0 awX = (awS0, 0, false, 5) := by rfl
theorem aw2 : wantP awS0 0 = (awS1, 0) := by rfl
theorem aw3 : putP awS1 awX = (awS2, 0, false, 0) := by rfl
theorem aw4 : chooseP awS2 = (awS3, 5, 0, true) := by rfl
theorem aw5 : rewriteP awS3 = (awS4, 0, false, true) := by rfl
theorem aw6 : writeP awS4 true = (awS5, 5, 1, true) := by rfl
theorem aw7 : chooseP awS5 = (awS5, 0, 0, false) := by rfl
theorem aw_sl {w : World} {b t : Nat} (h : w.heap[b]? = some (.cells #[.int .u8 4] t (0, 0))) : SlI .u8 w (.slice (some ⟨b, 0, none⟩) 1 1) [4] :=
  ⟨_, _, rfl, by simp, fun i hi => by
    obtain rfl : i = 0 := by simpa using hi
    exact ⟨b, 0, rfl, blk_lt h, blk_cell h 0 rfl⟩, by simp, by unfold maxLen; omega, fun e => by cases e⟩
theorem aw_put {w0 w : World} {L : Nat} {s : LnS} {F : List Nat} (h : LnH w0 w L s F) (b t : Nat) (hb : w.heap[b]? = some (.cells #[.int .u8 4] t (0, 0))) :
    Calls Try.prog 13 #[.pointer (some ⟨L, 0, none⟩), .agg #[.int .i64 5, .int .i64 0, .bool true, .bool false, .int .u8 0, .int .u16 1, .int .u32 2, .int .u32 3, .slice none 0 0, .bool false, .int .u16 0, .slice none 0 0, .slice (some ⟨b, 0, none⟩) 1 1]] w fun e w' => e = .returned (.tuple #[.int .i64 (putP s awX).2.1, .bool (putP s awX).2.2.1, .int .i64 (putP s awX).2.2.2]) ∧ LnH w0 w' L (putP s awX).1 F ∧ Stay F w w' :=
  put_h h awX none none (some ⟨b, 0, none⟩) 0 0 1 ⟨SlI.nil _ _, SlI.nil _ _, aw_sl hb⟩ ⟨by decide, by decide, by decide, by decide, fun i => by simp [U32], by decide, byt_nil, Byt.of_all (by rfl)⟩ ⟨by simp, by simp, by simp⟩
theorem aw_body {w : World} {b t : Nat} (h : w.heap[b]? = some (.cells #[.int .u8 128, .int .u8 0, .int .u8 0, .int .u8 9, .int .u8 0, .int .u8 0, .int .u8 0, .int .u8 100, .int .u8 0, .int .u8 0, .int .u8 0, .int .u8 7, .int .u8 4] t (0, 0))) : SlI .u8 w (.slice (some ⟨b, 0, none⟩) 13 13) [128, 0, 0, 9, 0, 0, 0, 100, 0, 0, 0, 7, 4] :=
  ⟨_, _, rfl, by simp, fun i hi => by
    refine ⟨b, 0, rfl, blk_lt h, blk_cell h (0 + i) ?_⟩
    match i, hi with
    | 0, _ => rfl
    | 1, _ => rfl
    | 2, _ => rfl
    | 3, _ => rfl
    | 4, _ => rfl
    | 5, _ => rfl
    | 6, _ => rfl
    | 7, _ => rfl
    | 8, _ => rfl
    | 9, _ => rfl
    | 10, _ => rfl
    | 11, _ => rfl
    | 12, _ => rfl, by simp, by unfold maxLen; omega, fun e => by cases e⟩
theorem aw_lens {w0 w : World} {L : Nat} {F : List Nat} (h : LnH w0 w L awS2 F) : Calls Try.prog 12 #[.pointer (some ⟨L, 0, none⟩)] w fun e w' => e = .returned (.agg #[.int .i64 1, .int .i64 0, .int .i64 0]) ∧ LnH w0 w' L awS2 F ∧ Stay F w w' := lens_h h
theorem aw_lit {w : World} {b c t u : Nat} (h : w.heap[b]? = some (.cells #[.int .u8 128, .int .u8 0, .int .u8 0, .int .u8 9, .int .u8 0, .int .u8 0, .int .u8 0, .int .u8 100, .int .u8 0, .int .u8 0, .int .u8 0, .int .u8 7, .int .u8 4] t (0, 0))) (hc : w.heap[c]? = some (.cells #[.int .i64 5, .slice (some ⟨b, 0, none⟩) 13 13] u (0, 0))) : SlP 2 RRo w (.slice (some ⟨c, 0, none⟩) 1 1) [(5, [128, 0, 0, 9, 0, 0, 0, 100, 0, 0, 0, 7, 4])] :=
  ⟨_, _, rfl, by simp, fun i hi => by
    obtain rfl : i = 0 := by simpa using hi
    refine ⟨c, 0, [.int .i64 5, .slice (some ⟨b, 0, none⟩) 13 13], rfl, blk_lt hc, rfl, fun j hj => ?_, _, rfl, aw_body h⟩
    match j, hj with
    | 0, _ => exact blk_cell hc 0 rfl
    | 1, _ => exact blk_cell hc 1 rfl, by simp, by unfold maxLen; omega, fun e => by cases e⟩
set_option maxHeartbeats 8000000 in
theorem awake20 (w : World) : Calls Try.prog 9 #[] w fun e w' => e = .returned (.bool true) ∧ More w w' := by
  have NEW := Lib.hid (new_h w w (More.refl w) 2 1 7 9 100 2 rfl (by omega) (by omega) (by omega) (by omega) (by decide) (by decide))
  have hEQ := fun w => len3_eql 1 0 0 1 0 0 w
  rw [show decide ([(1 : Int), 0, 0] = [1, 0, 0]) = true from rfl] at hEQ
  go_enter Try.func9, Try.ntmps9
  go_wp2_with (first | (go_at_call 10; ((with_reducible refine (NEW.out).mono ?_); rintro e w1 ⟨L, rfl, h1, m1⟩; have H1 : Hid (LnH w ((w1.alloc (.cells #[.int .u8 4] 5)).alloc (.cells #[.int .i64 5, .int .i64 0, .bool true, .bool false, .int .u8 0, .int .u16 1, .int .u32 2, .int .u32 3, .slice none 0 0, .bool false, .int .u16 0, .slice none 0 0, .slice (some ⟨w1.heap.size, 0, none⟩) 1 1] 41)) L awS0 [w1.heap.size + 1, w1.heap.size]) := Lib.hid ((h1.add (More.alloc _ (.cells #[.int .u8 4] 5)) (Nat.le_refl _) (by simp)).add (More.alloc _ (.cells #[.int .i64 5, .int .i64 0, .bool true, .bool false, .int .u8 0, .int .u16 1, .int .u32 2, .int .u32 3, .slice none 0 0, .bool false, .int .u16 0, .slice none 0 0, .slice (some ⟨w1.heap.size, 0, none⟩) 1 1] 41)) (b := w1.heap.size + 1) (by simp) (by simp)); have T1 : Hid (Stay [w1.heap.size + 1, w1.heap.size] ((w1.alloc (.cells #[.int .u8 4] 5)).alloc (.cells #[.int .i64 5, .int .i64 0, .bool true, .bool false, .int .u8 0, .int .u16 1, .int .u32 2, .int .u32 3, .slice none 0 0, .bool false, .int .u16 0, .slice none 0 0, .slice (some ⟨w1.heap.size, 0, none⟩) 1 1] 41)) ((w1.alloc (.cells #[.int .u8 4] 5)).alloc (.cells #[.int .i64 5, .int .i64 0, .bool true, .bool false, .int .u8 0, .int .u16 1, .int .u32 2, .int .u32 3, .slice none 0 0, .bool false, .int .u16 0, .slice none 0 0, .slice (some ⟨w1.heap.size, 0, none⟩) 1 1] 41))) := Lib.hid (Stay.refl _ _); have XB : Hid (((w1.alloc (.cells #[.int .u8 4] 5)).alloc (.cells #[.int .i64 5, .int .i64 0, .bool true, .bool false, .int .u8 0, .int .u16 1, .int .u32 2, .int .u32 3, .slice none 0 0, .bool false, .int .u16 0, .slice none 0 0, .slice (some ⟨w1.heap.size, 0, none⟩) 1 1] 41)).heap[w1.heap.size + 1]? = some (.cells #[.int .i64 5, .int .i64 0, .bool true, .bool false, .int .u8 0, .int .u16 1, .int .u32 2, .int .u32 3, .slice none 0 0, .bool false, .int .u16 0, .slice none 0 0, .slice (some ⟨w1.heap.size, 0, none⟩) 1 1] 41 (0, 0))) := Lib.hid (blk_new2 (by simp)); have SB : Hid (((w1.alloc (.cells #[.int .u8 4] 5)).alloc (.cells #[.int .i64 5, .int .i64 0, .bool true, .bool false, .int .u8 0, .int .u16 1, .int .u32 2, .int .u32 3, .slice none 0 0, .bool false, .int .u16 0, .slice none 0 0, .slice (some ⟨w1.heap.size, 0, none⟩) 1 1] 41)).heap[w1.heap.size]? = some (.cells #[.int .u8 4] 5 (0, 0))) := Lib.hid (blk_alloc (blk_new w1 _) _); clear h1 m1)) | (go_at_call 13; ((with_reducible refine (aw_put H1.out w1.heap.size _ SB.out).mono ?_); rintro e w2 ⟨rfl, h2, t2⟩; rw [aw1] at h2; try rw [aw1]; have H2 := Lib.hid h2; have T2 := Lib.hid (T1.out.trans t2); clear h2 t2)) | (go_at_call 17; ((with_reducible refine (want_h H2.out 0).mono ?_); rintro e w3 ⟨rfl, h3, t3⟩; rw [aw2] at h3; try rw [aw2]; have H3 := Lib.hid h3; have T3 := Lib.hid (T2.out.trans t3); clear h3 t3)) | (refine lnIf (.load 41 (.tmp 3)) rfl ?_; refine lnLoad rfl 41 (.tmp 3) rfl (w1.heap.size + 1) 41 _ _ (T3.out.blk (by simp) XB.out) rfl Try.underlying41 rfl (by kernel_rfl) ?_) | (go_at_call 13; ((with_reducible refine (aw_put H3.out w1.heap.size _ (T3.out.blk (by simp) SB.out)).mono ?_); rintro e w4 ⟨rfl, h4, t4⟩; rw [aw3] at h4; try rw [aw3]; have H4 := Lib.hid h4; have T4 := Lib.hid (T3.out.trans t4); clear h4 t4)) | (go_at_call 12; ((with_reducible refine (aw_lens H4.out).mono ?_); rintro e w5 ⟨rfl, h5, t5⟩; have H5 : Hid (LnH w (w5.alloc (.cells #[.int .i64 1, .int .i64 0, .int .i64 0] 44)) L awS2 [w5.heap.size]) := Lib.hid ((h5.sub (F' := []) (by simp)).add (More.alloc _ (.cells #[.int .i64 1, .int .i64 0, .int .i64 0] 44)) (Nat.le_refl _) (by simp)); have T5 : Hid (Stay [w5.heap.size] (w5.alloc (.cells #[.int .i64 1, .int .i64 0, .int .i64 0] 44)) (w5.alloc (.cells #[.int .i64 1, .int .i64 0, .int .i64 0] 44))) := Lib.hid (Stay.refl _ _); have LB : Hid ((w5.alloc (.cells #[.int .i64 1, .int .i64 0, .int .i64 0] 44)).heap[w5.heap.size]? = some (.cells #[.int .i64 1, .int .i64 0, .int .i64 0] 44 (0, 0))) := Lib.hid (blk_new w5 _); clear h5 t5)) | (go_at_call 14; ((with_reducible refine (choose_h H5.out).mono ?_); rintro e w6 ⟨rfl, h6, t6⟩; rw [aw4] at h6; try rw [aw4]; have H6 := Lib.hid h6; have T6 := Lib.hid (T5.out.trans t6); clear h6 t6)) | (go_at_call 15; ((with_reducible refine (rewrite_h H6.out).mono ?_); rintro e w7 ⟨rfl, h7, t7⟩; rw [aw5] at h7; try rw [aw5]; have H7 := Lib.hid h7; have T7 := Lib.hid (T6.out.trans t7); clear h7 t7)) | (go_at_call 16; ((with_reducible refine (write_h H7.out (by decide) true).mono ?_); rintro e w8 ⟨rfl, h8, t8⟩; rw [aw6] at h8; try rw [aw6]; have H8 := Lib.hid h8; have T8 := Lib.hid (T7.out.trans t8); clear h8 t8)) | (go_at_call 14; ((with_reducible refine (choose_h H8.out).mono ?_); rintro e w9 ⟨rfl, h9, t9⟩; rw [aw7] at h9; try rw [aw7]; have H9 := Lib.hid h9; have T9 := Lib.hid (T8.out.trans t9); clear h9 t9)) | (go_at_call 23; ((with_reducible refine (written_h H9.out (by decide)).mono ?_); rintro e w10 ⟨⟨v10, rfl, r10⟩, h10, t10, _⟩; have H10 := Lib.hid h10; have R10 := Lib.hid r10; have T10 := Lib.hid (T9.out.trans t10); have l0 : w10.cell? ⟨w5.heap.size, 0, none⟩ = some (.int .i64 1) := blk_cell ((T9.out.trans t10).blk (by simp) LB.out) 0 rfl; have l1 : w10.cell? ⟨w5.heap.size, 1, none⟩ = some (.int .i64 0) := blk_cell ((T9.out.trans t10).blk (by simp) LB.out) 1 rfl; have l2 : w10.cell? ⟨w5.heap.size, 2, none⟩ = some (.int .i64 0) := blk_cell ((T9.out.trans t10).blk (by simp) LB.out) 2 rfl; clear h10 r10 t10)) | (go_at_call 30; ((with_reducible refine (own20 v10 _ w10 (SlP.to_ro (R10.out.sl (by decide))) (by decide)).mono ?_); rintro e w11 ⟨v11, rfl, s11, m11⟩; have S11 := Lib.hid s11; have M11 := Lib.hid m11; have H11 : Hid (LnH w ((w11.alloc (.cells #[.int .u8 128, .int .u8 0, .int .u8 0, .int .u8 9, .int .u8 0, .int .u8 0, .int .u8 0, .int .u8 100, .int .u8 0, .int .u8 0, .int .u8 0, .int .u8 7, .int .u8 4] 5)).alloc (.cells #[.int .i64 5, .slice (some ⟨w11.heap.size, 0, none⟩) 13 13] 93)) L awS5 [w5.heap.size]) := Lib.hid (((H10.out.on m11).on (More.alloc _ (.cells #[.int .u8 128, .int .u8 0, .int .u8 0, .int .u8 9, .int .u8 0, .int .u8 0, .int .u8 0, .int .u8 100, .int .u8 0, .int .u8 0, .int .u8 0, .int .u8 7, .int .u8 4] 5))).on (More.alloc _ (.cells #[.int .i64 5, .slice (some ⟨w11.heap.size, 0, none⟩) 13 13] 93))); clear s11 m11)) | (go_at_call 29; ((with_reducible refine (Same20_eq [(5, [128, 0, 0, 9, 0, 0, 0, 100, 0, 0, 0, 7, 4])] v11 _ _ ((S11.out.keep keepsRo (More.alloc _ (.cells #[.int .u8 128, .int .u8 0, .int .u8 0, .int .u8 9, .int .u8 0, .int .u8 0, .int .u8 0, .int .u8 100, .int .u8 0, .int .u8 0, .int .u8 0, .int .u8 7, .int .u8 4] 5))).keep keepsRo (More.alloc _ (.cells #[.int .i64 5, .slice (some ⟨w11.heap.size, 0, none⟩) 13 13] 93))) (aw_lit (blk_alloc (blk_new w11 _) _) (blk_new2 (by simp)))).mono ?_); rintro e w12 ⟨rfl, m12⟩; have H12 := Lib.hid (H11.out.on m12); clear m12)) | (go_at_call 18; ((with_reducible refine (gone_h H12.out).mono ?_); rintro e w13 ⟨rfl, h13, _⟩; have H13 := Lib.hid h13; clear h13)))
  go_ret
  exact ⟨rfl, H13.out.more⟩
end Go.Proofs.Ytdgmmffedhikcaa
