/- Arrays of integers, compared. -/
import Derived.Test.YtmhkjamibcdcdaaRegion
import Derived.ChangeKeysEq
namespace Go.Proofs.Ytmhkjamibcdcdaa
open Go.RowKit

section
variable {P : Program} {t e : TypeId} {q : IntKind}
theorem equal_one (he : P.underlying e = some (.int q)) (n : Nat) (a b : Int) (w : World) : (Op.equalIn (n + 1) e (.int q a) (.int q b)).run P w = .ok (decide (a = b)) w := by
  unfold Op.equalIn
  rw [Sem.run_bind, run_underlying he]
  simp [Result.andThen, Sem.run, pure]
  rw [Bool.eq_iff_iff]; simp
theorem part_one (hA : ∀ w, (isAgg e).run P w = .ok false w) (cs : Array Value) (i : Nat) (v : Value) (w : World) (h : cs[i]? = some v) : (part e cs i).run P w = .ok v w := by
  unfold part
  rw [Sem.run_bind, hA]
  simp [Result.andThen, h, Sem.run, pure]
theorem items_ints (he : P.underlying e = some (.int q)) (hA : ∀ w, (isAgg e).run P w = .ok false w) (n : Nat) (la lb : List Int) (w : World) : ∀ (is : List Nat), (∀ i ∈ is, i < la.length ∧ i < lb.length) →
    (Op.eqItems (n + 1) e 1 (la.map (Value.int q)).toArray (lb.map (Value.int q)).toArray is).run P w = .ok (decide (∀ i ∈ is, la.getD i 0 = lb.getD i 0)) w
  | [], _ => by simp [Op.eqItems, Sem.run, pure]
  | i :: is, h => by
    obtain ⟨h1, h2⟩ := h i List.mem_cons_self
    have ih := items_ints he hA n la lb w is (fun j hj => h j (List.mem_cons_of_mem _ hj))
    unfold Op.eqItems
    rw [Sem.run_bind, part_one hA _ _ (.int q (la.getD i 0)) w (by simp [h1])]
    simp only [Result.andThen_ok]
    rw [Sem.run_bind, part_one hA _ _ (.int q (lb.getD i 0)) w (by simp [h2])]
    simp only [Result.andThen_ok]
    rw [Sem.run_bind, equal_one he]
    simp only [Result.andThen_ok]
    by_cases e : la.getD i 0 = lb.getD i 0
    · rw [decide_eq_true e]
      simp only [Bool.not_true, Bool.false_eq_true, if_false, ih]
      congr 1
      rw [Bool.eq_iff_iff]
      simp only [decide_eq_true_eq, List.forall_mem_cons]
      exact ⟨fun h => ⟨e, h⟩, fun h => h.2⟩
    · rw [decide_eq_false e]
      simp only [Bool.not_false, if_true]
      have : ¬ ∀ j ∈ i :: is, la.getD j 0 = lb.getD j 0 := fun h => e (h i List.mem_cons_self)
      rw [decide_eq_false this]
      rfl
theorem list_ext {n : Nat} {la lb : List Int} (ha : la.length = n) (hb : lb.length = n) : (∀ i ∈ List.range n, la.getD i 0 = lb.getD i 0) ↔ la = lb := by
  constructor
  · intro h
    refine List.ext_getElem (by omega) fun i h1 h2 => ?_
    have := h i (List.mem_range.2 (by omega))
    simpa [h1, h2] using this
  · rintro rfl i _
    rfl
theorem arr_eql {n : Nat} {i : TypeInfo} (ht : P.underlying t = some (.array n e)) (hi : P.info? e = some i) (hc : P.cellsOf e = 1) (he : P.underlying e = some (.int q)) (hA : ∀ w, (isAgg e).run P w = .ok false w) (la lb : List Int) (ha : la.length = n) (hb : lb.length = n) (w : World) :
    (binOp .eql t (.agg (la.map (Value.int q)).toArray) (.agg (lb.map (Value.int q)).toArray)).run P w = .ok (.bool (decide (la = lb))) w := by
  rw [run_eql_struct, show (10000 : Nat) = 9998 + 1 + 1 from rfl, run_equalIn_array w (9998 + 1) _ _ ht hi, hc, items_ints he hA 9998 la lb w _ (fun i hi => by have := List.mem_range.1 hi; omega)]
  simp only [Result.andThen_ok]
  congr 2
  rw [Bool.eq_iff_iff]
  simp only [decide_eq_true_eq]
  exact list_ext ha hb
theorem arr_neq {n : Nat} {i : TypeInfo} (ht : P.underlying t = some (.array n e)) (hi : P.info? e = some i) (hc : P.cellsOf e = 1) (he : P.underlying e = some (.int q)) (hA : ∀ w, (isAgg e).run P w = .ok false w) (la lb : List Int) (ha : la.length = n) (hb : lb.length = n) (w : World) :
    (binOp .neq t (.agg (la.map (Value.int q)).toArray) (.agg (lb.map (Value.int q)).toArray)).run P w = .ok (.bool (!decide (la = lb))) w := by
  rw [run_neq_struct, show (10000 : Nat) = 9998 + 1 + 1 from rfl, run_equalIn_array w (9998 + 1) _ _ ht hi, hc, items_ints he hA 9998 la lb w _ (fun i hi => by have := List.mem_range.1 hi; omega)]
  simp only [Result.andThen_ok]
  congr 3
  rw [Bool.eq_iff_iff]
  simp only [decide_eq_true_eq]
  exact list_ext ha hb
end
end Go.Proofs.Ytmhkjamibcdcdaa
