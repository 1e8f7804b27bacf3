/- A region that draws its order, where two operations that are not quiet may come up at once: a tree of orders. -/
import Derived.Test.YtlnikmcimmnbmaaRegion
namespace Go.Proofs.Ytlnikmcimmnbmaa
set_option linter.unusedSimpArgs false
set_option linter.unusedVariables false
open Go.RowKit

inductive Tr where
  | done
  | op (k : Nat) (b : Bool) (t : Tr)
  | br (ks : List Nat) (f : Nat → Tr)

/-- Each way has as many operations. -/
def Tr.has : Nat → Tr → Bool
  | 0, .done => true
  | n + 1, .op _ _ t => t.has n
  | n + 1, .br ks f => ks.all fun k => (f k).has n
  | _, _ => false
section
variable {P : Program} {ops : Array Oper} {md : Region.Mode} {C : World → Prop}
def trB (md : Region.Mode) (ops : Array Oper) (T : Nat) : Tr → Array Bool → Bool
  | .done, listed => (Region.ready md ops listed).isEmpty
  | .op k true t, listed => decide (k < ops.size) && decide (Region.ready md ops listed = [k]) && trB md ops T t (listed.setIfInBounds k true)
  | .op k false t, listed => decide (k < ops.size) && (Region.ready md ops listed).contains k && Region.free md ops listed k && ((ops[k]?).map (plainB ·.op)).getD false && tailB md ops T k && trB md ops T t (listed.setIfInBounds k true)
  | .br ks f, listed => !ks.isEmpty && decide (Region.ready md ops listed = ks) && ks.all fun k => decide (k < ops.size) && trB md ops T (f k) (listed.setIfInBounds k true)

def wpTr (P : Program) (ops : Array Oper) (T : Nat) (C : World → Prop) (Q : Act → World → Prop) : Tr → Act → World → Prop
  | .done, a, w => Q a w
  | .op k true t, a, w => if Region.wanted (ops[k]?.getD default) (yielded ops a.tmps) then loud P (Dem T C k) (ops[k]?.getD default) a w (wpTr P ops T C Q t) else C w ∧ wpTr P ops T C Q t (a.put (ops[k]?.getD default).dst undef) w
  | .op k false t, a, w => C w ∧ if Region.wanted (ops[k]?.getD default) (yielded ops a.tmps) then (ops[k]?.getD default).quiet P a C (fun a' => wpTr P ops T C Q t a' w) else wpTr P ops T C Q t (a.put (ops[k]?.getD default).dst undef) w
  | .br ks f, a, w => ∀ k ∈ ks, if Region.wanted (ops[k]?.getD default) (yielded ops a.tmps) then loud P (Dem T C k) (ops[k]?.getD default) a w (wpTr P ops T C Q (f k)) else C w ∧ wpTr P ops T C Q (f k) (a.put (ops[k]?.getD default).dst undef) w

theorem wpAnyC_tr {T : Nat} {Q : Act → World → Prop} (hs : Region.noSelect ops = true) : ∀ (n : Nat) (t : Tr) (listed : Array Bool) (a : Act) (w : World), t.has n = true →
    trB md ops T t listed = true → wpTr P ops T C Q t a w → wpAnyC P md ops T C Q n listed a w
  | 0, .done, _, _, _, _, hB, h => ⟨by simpa [trB] using hB, h⟩
  | 0, .op .., _, _, _, hh, _, _ => by simp [Tr.has] at hh
  | 0, .br .., _, _, _, hh, _, _ => by simp [Tr.has] at hh
  | _ + 1, .done, _, _, _, hh, _, _ => by simp [Tr.has] at hh
  | n + 1, .op k true t, listed, a, w, hh, hB, h => by
    simp only [trB, Bool.and_eq_true, decide_eq_true_eq] at hB
    obtain ⟨⟨hk, hr⟩, hB'⟩ := hB
    have h0 : ops[k]? = some (ops[k]?.getD default) := by simp [hk]
    generalize ops[k]?.getD default = o at h0
    refine ⟨fun h1 => (by rw [hr] at h1; cases h1), fun i hi => ?_⟩
    rw [hr] at hi
    obtain rfl : i = k := by simpa using hi
    unfold loudOp
    unfold wpTr at h
    simp only [h0, Option.getD_some] at h ⊢
    split
    · rename_i hw
      rw [if_pos hw] at h
      exact loud_mono (fun a' w' _ h' => wpAnyC_tr hs n t _ a' w' hh hB' h') h
    · rename_i hw
      rw [if_neg hw] at h
      exact ⟨dem_of h.1, wpAnyC_tr hs n t _ _ w hh hB' h.2⟩
  | n + 1, .op k false t, listed, a, w, hh, hB, h => by
    simp only [trB, Bool.and_eq_true, decide_eq_true_eq] at hB
    obtain ⟨⟨⟨⟨⟨hk, hr⟩, hf⟩, hp⟩, ht⟩, hB'⟩ := hB
    have h0 : ops[k]? = some (ops[k]?.getD default) := by simp [hk]
    generalize ops[k]?.getD default = o at h0
    rw [h0] at hp
    simp only [Option.map_some, Option.getD_some] at hp
    unfold wpTr at h
    simp only [h0, Option.getD_some] at h
    obtain ⟨hC, h⟩ := h
    obtain ⟨v, hy, hK⟩ : ∃ v, Calm P ops C o v a ∧ wpTr P ops T C Q t (a.put o.dst v) w := by
      by_cases hw : Region.wanted o (yielded ops a.tmps) = true
      · rw [if_pos hw] at h
        exact calm_of_quiet hp hw h
      · rw [if_neg hw] at h
        exact ⟨undef, .inr ⟨by simpa using hw, rfl⟩, h⟩
    exact wpAnyC_first h0 (Region.noSelect_spec hs) (tailB_spec ht) n listed a w hC (Region.free_spec h0 hf) (by simpa using hr) hy
      (wpAnyC_tr hs n t _ _ w hh hB' hK)
  | n + 1, .br ks f, listed, a, w, hh, hB, h => by
    simp only [trB, Bool.and_eq_true, decide_eq_true_eq, List.all_eq_true] at hB
    obtain ⟨⟨hne, hr⟩, hB'⟩ := hB
    simp only [Tr.has, List.all_eq_true] at hh
    refine ⟨fun h1 => (by rw [hr] at h1; subst h1; simp at hne), fun i hi => ?_⟩
    · rw [hr] at hi
      have hk := (hB' i hi).1
      have hB2 := (hB' i hi).2
      have h1 := h i hi
      have h0 : ops[i]? = some (ops[i]?.getD default) := by simp [hk]
      generalize ops[i]?.getD default = o at h0
      unfold loudOp
      simp only [h0, Option.getD_some] at h1 ⊢
      split
      · rename_i hw
        rw [if_pos hw] at h1
        exact loud_mono (fun a' w' _ h' => wpAnyC_tr hs n (f i) _ a' w' (hh i hi) hB2 h') h1
      · rename_i hw
        rw [if_neg hw] at h1
        exact ⟨dem_of h1.1, wpAnyC_tr hs n (f i) _ _ w (hh i hi) hB2 h1.2⟩
end
section
variable {P : Program} {C : World → Prop} {l : List Oper} {T : Nat} {Q : Act → World → Prop} {k : Nat} {b : Bool} {o : Oper} {t : Tr} {a : Act} {w : World}
theorem tr_done (h : Q a w) : wpTr P l.toArray T C Q .done a w := h
theorem tr_quiet (ho : l[k]? = some o) (hw : Region.wanted o (yielded l.toArray a.tmps) = true) (hC : C w) (h : ∀ K : Act → Prop, (∀ a, wpTr P l.toArray T C Q t a w → K a) → o.quiet P a C K) : wpTr P l.toArray T C Q (.op k false t) a w := by
  unfold wpTr
  simp only [List.getElem?_toArray, ho, Option.getD_some]
  rw [if_pos hw]
  exact ⟨hC, h _ (fun a h => h)⟩
theorem tr_skip (ho : l[k]? = some o) (hw : Region.wanted o (yielded l.toArray a.tmps) = false) (hC : C w) (h : wpTr P l.toArray T C Q t (a.put o.dst undef) w) : wpTr P l.toArray T C Q (.op k b t) a w := by
  cases b
  all_goals
    unfold wpTr
    simp only [List.getElem?_toArray, ho, Option.getD_some]
    rw [if_neg (by rw [hw]; exact Bool.false_ne_true)]
    exact ⟨hC, h⟩
theorem tr_next (ho : l[k]? = some o) (hw : Region.wanted o (yielded l.toArray a.tmps) = true) (h : ∀ K : Act → World → Prop, (∀ a w, wpTr P l.toArray T C Q t a w → K a w) → loud P C o a w K) : wpTr P l.toArray T C Q (.op k true t) a w := by
  unfold wpTr
  simp only [List.getElem?_toArray, ho, Option.getD_some]
  rw [if_pos hw]
  exact loud_class (fun _ h => dem_of h) (h _ fun a w h => h)
theorem tr_end (ho : l[k]? = some o) (hw : Region.wanted o (yielded l.toArray a.tmps) = true) (hk : T ≤ k) (h : ∀ K : Act → World → Prop, (∀ a w, wpTr P l.toArray T C Q t a w → K a w) → loud P (fun _ => True) o a w K) : wpTr P l.toArray T C Q (.op k true t) a w := by
  unfold wpTr
  simp only [List.getElem?_toArray, ho, Option.getD_some]
  rw [if_pos hw]
  exact loud_class (fun w _ => fun hlt => absurd hlt (by omega)) (h _ fun a w h => h)
/-- One of two that may come up: each of them. -/
theorem tr_two {i j : Nat} {t' : Tr} (hne : i ≠ j) (hi : wpTr P l.toArray T C Q (.op i true t) a w) (hj : wpTr P l.toArray T C Q (.op j true t') a w) : wpTr P l.toArray T C Q (.br [i, j] fun k => if k = i then t else t') a w := by
  unfold wpTr at *
  intro k hk
  simp at hk
  rcases hk with rfl | rfl
  · simpa using hi
  · have : ¬ k = i := fun e => hne e.symm
    simpa [this] using hj
end
theorem wp_region_tr {P : Program} {id : Nat} {Q : Exit → Act → World → Prop} {a : Act} {w : World} {l : List Oper} {C : World → Prop} (T : Nat) (t : Tr) (hm : P.follows .mixedOrders = true)
    (hB : (Region.noSelect l.toArray && trB .any l.toArray T t (Array.replicate l.length false) && t.has l.length) = true)
    (h : wpTr P l.toArray T C (Q .normal) t a (w.drewN 1)) : (Code.region id l.toArray true).wp P Q a w := by
  simp only [Bool.and_eq_true] at hB
  obtain ⟨⟨h1, h2⟩, h3⟩ := hB
  refine wp_region_any hm (wpAny_of_C (T := T) (C := C) (Q := Q .normal) (fun _ _ h => h) _ _ _ _ ?_)
  have hl : l.toArray.size = l.length := by simp
  rw [hl]
  exact wpAnyC_tr h1 _ t _ a _ h3 h2 h
theorem wp_region_trL {P : Program} {id : Nat} {Q : Exit → Act → World → Prop} {a : Act} {w : World} {l : List Oper} (w0 : World) (T : Nat) (t : Tr) (hm : P.follows .mixedOrders = true)
    (hB : (Region.noSelect l.toArray && trB .any l.toArray T t (Array.replicate l.length false) && t.has l.length) = true)
    (h : wpTr P l.toArray T (fun w' => ∃ x : Later w0, w' = x.w') (Q .normal) t a (w.drewN 1)) : (Code.region id l.toArray true).wp P Q a w :=
  wp_region_tr (C := fun w' => ∃ x : Later w0, w' = x.w') T t hm hB h
theorem wp_region_trS {P : Program} {id : Nat} {Q : Exit → Act → World → Prop} {a : Act} {w : World} {l : List Oper} (S : Nat → Prop) (w0 : World) (T : Nat) (t : Tr) (hm : P.follows .mixedOrders = true)
    (hB : (Region.noSelect l.toArray && trB .any l.toArray T t (Array.replicate l.length false) && t.has l.length) = true)
    (h : wpTr P l.toArray T (fun w' => ∃ x : LaterS S w0, w' = x.w') (Q .normal) t a (w.drewN 1)) : (Code.region id l.toArray true).wp P Q a w :=
  wp_region_tr (C := fun w' => ∃ x : LaterS S w0, w' = x.w') T t hm hB h
end Go.Proofs.Ytlnikmcimmnbmaa
