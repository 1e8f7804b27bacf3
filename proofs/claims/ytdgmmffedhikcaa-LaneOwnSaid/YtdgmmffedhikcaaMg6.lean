/- Merged from my texts SliceC, RdR, Tree, Frame, Read. -/
import Derived.Test.YtdgmmffedhikcaaMg3
import Derived.Laws.AppendOwnNone
import Derived.Test.YtdgmmffedhikcaaMg2
import Derived.Test.YtdgmmffedhikcaaMg5
import Derived.IntWalk
import Derived.Test.YtdgmmffedhikcaaMg0
import Derived.ProofKit
import Derived.OpenShut
import Derived.Lib.SmallJoins
import Derived.Deep.Slices
import Derived.Deep.Fields
/- append in a region that draws its order: rows of integers. -/
namespace Go.Proofs.Ytdgmmffedhikcaa
set_option linter.unusedSimpArgs false
set_option linter.unusedVariables false
open Go.RowKit

theorem loud_append_at {P : Program} {w : World} {o : Oper} {a : Act} {C : World → Prop} {K : Act → World → Prop} (s x : Operand) (t : TypeId)
    (ho : o.op = .call { callee := .builtin .append, args := #[s, x], argTypes := #[t, t] })
    (base : Nat) (e : TypeId) (i : TypeInfo) (z : Value) (bytes : Nat) (ht : P.underlying t = some (.slice e)) (hi : P.info? e = some i) (hz : i.zero = some z)
    (hsize : i.size = 1) (hby : i.bytes = bytes) (hzs : z.cells.size = 1)
    (v : Value) (k : IntKind) (l : List Int) (hs : a.eval s = v) (hown : w.ownsRow base e 1 v l.length (l.map (Value.int k)))
    (ad : Addr) (cap : Nat) (lx : List Int) (hx : a.eval x = .slice (some ad) lx.length cap) (hl : SlI k w (.slice (some ad) lx.length cap) lx)
    (hbytes : (l.length + lx.length) * bytes ≤ 140737488355328) (hby1 : 1 ≤ bytes) (hbase : base ≤ w.heap.size)
    (h : ∀ v' w', w'.ownsRow base e 1 v' (l ++ lx).length ((l ++ lx).map (Value.int k)) → w.grownBy w' v.ownBlock → (v'.ownBlock = v.ownBlock ∨ v'.ownBlock = some w.heap.size) → C w' ∧ K (a.put o.dst v') w') : loud P C o a w K := by
  have h63 : l.length + lx.length ≤ maxLen := by
    have := Nat.le_mul_of_pos_right (l.length + lx.length) (show 0 < bytes by omega)
    unfold maxLen; omega
  obtain ⟨oa', cap', e', hl1, hl2, hl3, hl4, hl5⟩ := hl
  cases e'
  obtain ⟨v', w', hr, h2, h3, _, h5⟩ := run_append_own_at (P := P) w base t o.type e i z 1 bytes ht hi hz hsize hby hzs (by decide) v l.length (l.map (Value.int k)) hown ad lx.length cap (lx.map (Value.int k)) (by simp) (by
    intro j u hj
    rw [List.getElem?_map] at hj
    obtain ⟨y, hy, rfl⟩ := Option.map_eq_some_iff.1 hj
    obtain ⟨hlt, hy'⟩ := List.getElem?_eq_some_iff.1 hy
    obtain ⟨b, off, e1, _, hc⟩ := hl2 j hlt
    simp only [Option.some.injEq] at e1
    subst e1
    have ea : (⟨b, off, none⟩ : Addr).add j = ⟨b, off + j, none⟩ := by
      unfold Addr.add; split
      · rename_i h0; subst h0; rfl
      · rfl
    rw [ea, hc, List.getD_eq_getElem?_getD, hy]; rfl) (by
    intro u hu
    obtain ⟨y, _, rfl⟩ := List.mem_map.1 hu
    rfl) h63 hbytes hbase
  unfold loud execOp
  simp only [ho, resolve, invoke, builtin, Sem.run_bind, Sem.run_pure, Result.andThen_ok, List.map_toArray, List.map_cons, List.map_nil, hs, hx, hr]
  exact h v' w' (by simpa using h2) h3 h5
/-- The same, whatever the source. -/
theorem loud_append_sl {P : Program} {w : World} {o : Oper} {a : Act} {C : World → Prop} {K : Act → World → Prop} (s x : Operand) (t : TypeId)
    (ho : o.op = .call { callee := .builtin .append, args := #[s, x], argTypes := #[t, t] })
    (base : Nat) (e : TypeId) (i : TypeInfo) (z : Value) (bytes : Nat) (ht : P.underlying t = some (.slice e)) (hi : P.info? e = some i) (hz : i.zero = some z)
    (hsize : i.size = 1) (hby : i.bytes = bytes) (hzs : z.cells.size = 1)
    (v : Value) (k : IntKind) (l : List Int) (hs : a.eval s = v) (hown : w.ownsRow base e 1 v l.length (l.map (Value.int k)))
    (vx : Value) (lx : List Int) (hx : a.eval x = vx) (hl : SlI k w vx lx)
    (hbytes : (l.length + lx.length) * bytes ≤ 140737488355328) (hby1 : 1 ≤ bytes) (hbase : base ≤ w.heap.size)
    (h : ∀ v' w', w'.ownsRow base e 1 v' (l ++ lx).length ((l ++ lx).map (Value.int k)) → w.grownBy w' v.ownBlock → (v'.ownBlock = v.ownBlock ∨ v'.ownBlock = some w.heap.size) → C w' ∧ K (a.put o.dst v') w') : loud P C o a w K := by
  have hl0 := hl
  obtain ⟨oa, cap, rfl, hl1, hl2, hl3, hl4, hl5⟩ := hl
  cases oa with
  | some ad => exact loud_append_at s x t ho base e i z bytes ht hi hz hsize hby hzs v k l hs hown ad cap lx hx hl0 hbytes hby1 hbase h
  | none =>
    have h0 : cap = 0 := hl5 rfl
    subst h0
    have hn : lx = [] := List.eq_nil_of_length_eq_zero (by omega)
    subst hn
    have hrun := run_append_owned_none (P := P) (w := w) base t o.type e i 1 ht hi v l.length (l.map (Value.int k)) hown
    have hh := h v w (by simpa using hown) ⟨rfl, rfl, rfl, Nat.le_refl _, fun _ _ _ => rfl⟩ (Or.inl rfl)
    simp only [List.length_nil] at hx
    unfold loud execOp
    simp only [ho, resolve, invoke, builtin, Sem.run_bind, Sem.run_pure, Result.andThen_ok, List.map_toArray, List.map_cons, List.map_nil, hs, hx, hrun]
    exact hh
end Go.Proofs.Ytdgmmffedhikcaa
/- The document's reader: contracts. -/
namespace Go.Proofs.Ytdgmmffedhikcaa
set_option linter.unusedSimpArgs false
set_option linter.unusedVariables false
open Go.RowKit
set_option maxRecDepth 100000

theorem tkB_of_nil (n : Int) : tkB [] n = [] := by unfold tkB; split <;> simp
theorem tkS_shut {s : RdS} (h : Shut s) (he : ¬ s.2 = 0) (n : Int) : tkS s n = s ∧ tkB s.1 n = [] := by
  obtain ⟨l, e⟩ := s
  have : l = [] := h he
  subst this
  refine ⟨?_, tkB_of_nil n⟩
  unfold tkS tkL tkE
  rw [if_neg (fun x => he x.2)]
  simp
/-- A part of a slice. -/
theorem sl_part {w : World} {v : Value} {L : List Int} (h : SlI .u8 w v L) (a n : Nat) (hn : a + n ≤ L.length) :
    ∃ v', (∀ w', (Instr.sliceAt 37 v (some (.int .i64 (a : Int))) (some (.int .i64 ((a : Int) + (n : Int)))) none).run Try.prog w' = .ok v' w') ∧ SlI .u8 w v' ((L.drop a).take n) ∧ ∃ oa c, v' = .slice oa n c := by
  obtain ⟨oa, cap, rfl, h1, h2, h3, h4, h5⟩ := h
  have g1 : (0 : Int) ≤ (a : Int) := by omega
  have g2 : (a : Int) ≤ (a : Int) + (n : Int) := by omega
  have g3 : (a : Int) + (n : Int) ≤ (cap : Int) := by omega
  have g4 : (0 : Int) ≤ (a : Int) + (n : Int) := by omega
  have g5 : ((a : Int) + (n : Int)).toNat - a = n := by omega
  have S0 : SlI .u8 w (.slice oa L.length cap) L := ⟨oa, cap, rfl, h1, h2, h3, h4, h5⟩
  by_cases hc : cap = a
  · subst hc
    refine ⟨.slice oa n 0, fun w' => ?_, ?_, ⟨_, _, rfl⟩⟩
    · simp [go_sem, Try.underlying37, g1, g2, g3, g4, g5]
    · have e0 : n = 0 := by omega
      subst e0
      rw [List.take_zero]
      exact ⟨oa, 0, rfl, by simp, fun i hi => by simp at hi, Nat.le_refl _, Nat.zero_le _, fun _ => rfl⟩
  · refine ⟨.slice (oa.map (·.add a)) n (cap - a), fun w' => ?_, ?_, ⟨_, _, rfl⟩⟩
    · simp [go_sem, Try.underlying37, g1, g2, g3, g4, g5, hc]
    · have hl : ((L.drop a).take n).length = n := by rw [List.length_take, List.length_drop]; omega
      refine ⟨oa.map (·.add a), cap - a, by rw [hl], by rw [hl]; omega, fun i hi => ?_, by rw [hl]; omega, Nat.le_trans (Nat.sub_le _ _) h4, fun h => ?_⟩
      · rw [hl] at hi
        obtain ⟨b, off, e, hb, hcl⟩ := h2 (a + i) (by omega)
        have ea : (⟨b, off, none⟩ : Addr).add a = ⟨b, off + a, none⟩ := by
          unfold Addr.add; split
          · rename_i h0; subst h0; rfl
          · rfl
        refine ⟨b, off + a, by rw [e, Option.map_some, ea], hb, ?_⟩
        rw [Nat.add_assoc, hcl, List.getD_eq_getElem?_getD, List.getD_eq_getElem?_getD, List.getElem?_take, if_pos hi, List.getElem?_drop]
      · cases oa with
        | none => have := h5 rfl; omega
        | some a => simp at h
end Go.Proofs.Ytdgmmffedhikcaa
/- A region that draws its order, where two operations that are not quiet may come up at once: a tree of orders. -/
namespace Go.Proofs.Ytdgmmffedhikcaa
set_option linter.unusedSimpArgs false
set_option linter.unusedVariables false
open Go.RowKit

inductive Tr where
  | done
  | op (k : Nat) (b : Bool) (t : Tr)
  | br (ks : List Nat) (f : Nat → Tr)

/-- Each way has as many operations. -/
def Tr.has : Nat → Tr → Bool
  | 0, .done => true
  | n + 1, .op _ _ t => t.has n
  | n + 1, .br ks f => ks.all fun k => (f k).has n
  | _, _ => false
section
variable {P : Program} {ops : Array Oper} {md : Region.Mode} {C : World → Prop}
def trB (md : Region.Mode) (ops : Array Oper) (T : Nat) : Tr → Array Bool → Bool
  | .done, listed => (Region.ready md ops listed).isEmpty
  | .op k true t, listed => decide (k < ops.size) && decide (Region.ready md ops listed = [k]) && trB md ops T t (listed.setIfInBounds k true)
  | .op k false t, listed => decide (k < ops.size) && (Region.ready md ops listed).contains k && Region.free md ops listed k && ((ops[k]?).map (plainB ·.op)).getD false && tailB md ops T k && trB md ops T t (listed.setIfInBounds k true)
  | .br ks f, listed => !ks.isEmpty && decide (Region.ready md ops listed = ks) && ks.all fun k => decide (k < ops.size) && trB md ops T (f k) (listed.setIfInBounds k true)

def wpTr (P : Program) (ops : Array Oper) (T : Nat) (C : World → Prop) (Q : Act → World → Prop) : Tr → Act → World → Prop
  | .done, a, w => Q a w
  | .op k true t, a, w => if Region.wanted (ops[k]?.getD default) (yielded ops a.tmps) then loud P (Dem T C k) (ops[k]?.getD default) a w (wpTr P ops T C Q t) else C w ∧ wpTr P ops T C Q t (a.put (ops[k]?.getD default).dst undef) w
  | .op k false t, a, w => C w ∧ if Region.wanted (ops[k]?.getD default) (yielded ops a.tmps) then (ops[k]?.getD default).quiet P a C (fun a' => wpTr P ops T C Q t a' w) else wpTr P ops T C Q t (a.put (ops[k]?.getD default).dst undef) w
  | .br ks f, a, w => ∀ k ∈ ks, if Region.wanted (ops[k]?.getD default) (yielded ops a.tmps) then loud P (Dem T C k) (ops[k]?.getD default) a w (wpTr P ops T C Q (f k)) else C w ∧ wpTr P ops T C Q (f k) (a.put (ops[k]?.getD default).dst undef) w

theorem wpAnyC_tr {T : Nat} {Q : Act → World → Prop} (hs : Region.noSelect ops = true) : ∀ (n : Nat) (t : Tr) (listed : Array Bool) (a : Act) (w : World), t.has n = true →
    trB md ops T t listed = true → wpTr P ops T C Q t a w → wpAnyC P md ops T C Q n listed a w
  | 0, .done, _, _, _, _, hB, h => ⟨by simpa [trB] using hB, h⟩
  | 0, .op .., _, _, _, hh, _, _ => by simp [Tr.has] at hh
  | 0, .br .., _, _, _, hh, _, _ => by simp [Tr.has] at hh
  | _ + 1, .done, _, _, _, hh, _, _ => by simp [Tr.has] at hh
  | n + 1, .op k true t, listed, a, w, hh, hB, h => by
    simp only [trB, Bool.and_eq_true, decide_eq_true_eq] at hB
    obtain ⟨⟨hk, hr⟩, hB'⟩ := hB
    have h0 : ops[k]? = some (ops[k]?.getD default) := by simp [hk]
    generalize ops[k]?.getD default = o at h0
    refine ⟨fun h1 => (by rw [hr] at h1; cases h1), fun i hi => ?_⟩
    rw [hr] at hi
    obtain rfl : i = k := by simpa using hi
    unfold loudOp
    unfold wpTr at h
    simp only [h0, Option.getD_some] at h ⊢
    split
    · rename_i hw
      rw [if_pos hw] at h
      exact loud_mono (fun a' w' _ h' => wpAnyC_tr hs n t _ a' w' hh hB' h') h
    · rename_i hw
      rw [if_neg hw] at h
      exact ⟨dem_of h.1, wpAnyC_tr hs n t _ _ w hh hB' h.2⟩
  | n + 1, .op k false t, listed, a, w, hh, hB, h => by
    simp only [trB, Bool.and_eq_true, decide_eq_true_eq] at hB
    obtain ⟨⟨⟨⟨⟨hk, hr⟩, hf⟩, hp⟩, ht⟩, hB'⟩ := hB
    have h0 : ops[k]? = some (ops[k]?.getD default) := by simp [hk]
    generalize ops[k]?.getD default = o at h0
    rw [h0] at hp
    simp only [Option.map_some, Option.getD_some] at hp
    unfold wpTr at h
    simp only [h0, Option.getD_some] at h
    obtain ⟨hC, h⟩ := h
    obtain ⟨v, hy, hK⟩ : ∃ v, Calm P ops C o v a ∧ wpTr P ops T C Q t (a.put o.dst v) w := by
      by_cases hw : Region.wanted o (yielded ops a.tmps) = true
      · rw [if_pos hw] at h
        exact calm_of_quiet hp hw h
      · rw [if_neg hw] at h
        exact ⟨undef, .inr ⟨by simpa using hw, rfl⟩, h⟩
    exact wpAnyC_first h0 (Region.noSelect_spec hs) (tailB_spec ht) n listed a w hC (Region.free_spec h0 hf) (by simpa using hr) hy
      (wpAnyC_tr hs n t _ _ w hh hB' hK)
  | n + 1, .br ks f, listed, a, w, hh, hB, h => by
    simp only [trB, Bool.and_eq_true, decide_eq_true_eq, List.all_eq_true] at hB
    obtain ⟨⟨hne, hr⟩, hB'⟩ := hB
    simp only [Tr.has, List.all_eq_true] at hh
    refine ⟨fun h1 => (by rw [hr] at h1; subst h1; simp at hne), fun i hi => ?_⟩
    · rw [hr] at hi
      have hk := (hB' i hi).1
      have hB2 := (hB' i hi).2
      have h1 := h i hi
      have h0 : ops[i]? = some (ops[i]?.getD default) := by simp [hk]
      generalize ops[i]?.getD default = o at h0
      unfold loudOp
      simp only [h0, Option.getD_some] at h1 ⊢
      split
      · rename_i hw
        rw [if_pos hw] at h1
        exact loud_mono (fun a' w' _ h' => wpAnyC_tr hs n (f i) _ a' w' (hh i hi) hB2 h') h1
      · rename_i hw
        rw [if_neg hw] at h1
        exact ⟨dem_of h1.1, wpAnyC_tr hs n (f i) _ _ w (hh i hi) hB2 h1.2⟩
end
section
variable {P : Program} {C : World → Prop} {l : List Oper} {T : Nat} {Q : Act → World → Prop} {k : Nat} {b : Bool} {o : Oper} {t : Tr} {a : Act} {w : World}
theorem tr_done (h : Q a w) : wpTr P l.toArray T C Q .done a w := h
theorem tr_quiet (ho : l[k]? = some o) (hw : Region.wanted o (yielded l.toArray a.tmps) = true) (hC : C w) (h : ∀ K : Act → Prop, (∀ a, wpTr P l.toArray T C Q t a w → K a) → o.quiet P a C K) : wpTr P l.toArray T C Q (.op k false t) a w := by
  unfold wpTr
  simp only [List.getElem?_toArray, ho, Option.getD_some]
  rw [if_pos hw]
  exact ⟨hC, h _ (fun a h => h)⟩
theorem tr_skip (ho : l[k]? = some o) (hw : Region.wanted o (yielded l.toArray a.tmps) = false) (hC : C w) (h : wpTr P l.toArray T C Q t (a.put o.dst undef) w) : wpTr P l.toArray T C Q (.op k b t) a w := by
  cases b
  all_goals
    unfold wpTr
    simp only [List.getElem?_toArray, ho, Option.getD_some]
    rw [if_neg (by rw [hw]; exact Bool.false_ne_true)]
    exact ⟨hC, h⟩
theorem tr_next (ho : l[k]? = some o) (hw : Region.wanted o (yielded l.toArray a.tmps) = true) (h : ∀ K : Act → World → Prop, (∀ a w, wpTr P l.toArray T C Q t a w → K a w) → loud P C o a w K) : wpTr P l.toArray T C Q (.op k true t) a w := by
  unfold wpTr
  simp only [List.getElem?_toArray, ho, Option.getD_some]
  rw [if_pos hw]
  exact loud_class (fun _ h => dem_of h) (h _ fun a w h => h)
theorem tr_end (ho : l[k]? = some o) (hw : Region.wanted o (yielded l.toArray a.tmps) = true) (hk : T ≤ k) (h : ∀ K : Act → World → Prop, (∀ a w, wpTr P l.toArray T C Q t a w → K a w) → loud P (fun _ => True) o a w K) : wpTr P l.toArray T C Q (.op k true t) a w := by
  unfold wpTr
  simp only [List.getElem?_toArray, ho, Option.getD_some]
  rw [if_pos hw]
  exact loud_class (fun w _ => fun hlt => absurd hlt (by omega)) (h _ fun a w h => h)
/-- One of two that may come up: each of them. -/
theorem tr_two {i j : Nat} {t' : Tr} (hne : i ≠ j) (hi : wpTr P l.toArray T C Q (.op i true t) a w) (hj : wpTr P l.toArray T C Q (.op j true t') a w) : wpTr P l.toArray T C Q (.br [i, j] fun k => if k = i then t else t') a w := by
  unfold wpTr at *
  intro k hk
  simp at hk
  rcases hk with rfl | rfl
  · simpa using hi
  · have : ¬ k = i := fun e => hne e.symm
    simpa [this] using hj
end
theorem wp_region_tr {P : Program} {id : Nat} {Q : Exit → Act → World → Prop} {a : Act} {w : World} {l : List Oper} {C : World → Prop} (T : Nat) (t : Tr) (hm : P.follows .mixedOrders = true)
    (hB : (Region.noSelect l.toArray && trB .any l.toArray T t (Array.replicate l.length false) && t.has l.length) = true)
    (h : wpTr P l.toArray T C (Q .normal) t a (w.drewN 1)) : (Code.region id l.toArray true).wp P Q a w := by
  simp only [Bool.and_eq_true] at hB
  obtain ⟨⟨h1, h2⟩, h3⟩ := hB
  refine wp_region_any hm (wpAny_of_C (T := T) (C := C) (Q := Q .normal) (fun _ _ h => h) _ _ _ _ ?_)
  have hl : l.toArray.size = l.length := by simp
  rw [hl]
  exact wpAnyC_tr h1 _ t _ a _ h3 h2 h
theorem wp_region_trL {P : Program} {id : Nat} {Q : Exit → Act → World → Prop} {a : Act} {w : World} {l : List Oper} (w0 : World) (T : Nat) (t : Tr) (hm : P.follows .mixedOrders = true)
    (hB : (Region.noSelect l.toArray && trB .any l.toArray T t (Array.replicate l.length false) && t.has l.length) = true)
    (h : wpTr P l.toArray T (fun w' => ∃ x : Later w0, w' = x.w') (Q .normal) t a (w.drewN 1)) : (Code.region id l.toArray true).wp P Q a w :=
  wp_region_tr (C := fun w' => ∃ x : Later w0, w' = x.w') T t hm hB h
theorem wp_region_trS {P : Program} {id : Nat} {Q : Exit → Act → World → Prop} {a : Act} {w : World} {l : List Oper} (S : Nat → Prop) (w0 : World) (T : Nat) (t : Tr) (hm : P.follows .mixedOrders = true)
    (hB : (Region.noSelect l.toArray && trB .any l.toArray T t (Array.replicate l.length false) && t.has l.length) = true)
    (h : wpTr P l.toArray T (fun w' => ∃ x : LaterS S w0, w' = x.w') (Q .normal) t a (w.drewN 1)) : (Code.region id l.toArray true).wp P Q a w :=
  wp_region_tr (C := fun w' => ∃ x : LaterS S w0, w' = x.w') T t hm hB h
end Go.Proofs.Ytdgmmffedhikcaa
/- Small lemmas for the frame of a law's proof: what an argument that came in reads as. -/
namespace Go.Proofs.Ytdgmmffedhikcaa
set_option linter.unusedSimpArgs false
set_option linter.unusedVariables false
open Go.ChangeShapes Go.WideShapes Go.ChangeAt Go.RowKit

theorem cell_lt {w : World} {a : Addr} {v : Value} (h : w.cell? a = some v) : a.spot = none ∧ a.block < w.heap.size := by
  unfold World.cell? at h
  split at h
  · rename_i c t f hb
    split at h
    · cases h
    · rename_i hs
      refine ⟨by simpa using hs, ?_⟩
      rcases Nat.lt_or_ge a.block w.heap.size with h' | h'
      · exact h'
      · simp [Array.getElem?_eq_none h'] at hb
  · cases h

/-- A slice of integers that came in, all of its cells. -/
theorem SlI.of_row {k : IntKind} {w : World} {a : Addr} {len cap : Nat} {zs : List Int} (hl : len ≤ cap) (hm : cap ≤ maxLen) (hz : zs.length = cap)
    (hc : ∀ i, i < zs.length → w.cell? (a.add i) = some (.int k (zs.getD i 0))) : SlI k w (.slice (some a) len cap) (zs.take len) := by
  have hlen : (zs.take len).length = len := by simp; omega
  refine ⟨some a, cap, by rw [hlen], by rw [hlen]; unfold maxLen at hm; omega, fun i hi => ?_, by rw [hlen]; exact hl, hm, fun h => by cases h⟩
  rw [hlen] at hi
  have h0 := cell_lt (hc 0 (by omega))
  have ha : a.add 0 = a := by simp [Addr.add]
  rw [ha] at h0
  obtain ⟨b, off, sp⟩ := a
  simp only at h0
  obtain ⟨rfl, hb⟩ := h0
  refine ⟨b, off, rfl, hb, ?_⟩
  have := hc i (by omega)
  have ea : (⟨b, off, none⟩ : Addr).add i = ⟨b, off + i, none⟩ := by
    unfold Addr.add; split
    · rename_i h0; subst h0; rfl
    · rfl
  rw [ea] at this
  rw [this, List.getD_eq_getElem?_getD, List.getD_eq_getElem?_getD, List.getElem?_take, if_pos hi]

theorem Byt.of_wf {l : List Int} (h : ∀ n ∈ l, (Lit.int .u8 n).wf = true) : Byt l := by
  intro i
  rw [List.getD_eq_getElem?_getD]
  by_cases hi : i < l.length
  · rw [List.getElem?_eq_getElem hi, Option.getD_some]
    exact bounds_u8 (h _ (List.getElem_mem hi))
  · rw [List.getElem?_eq_none (by omega)]; simp

end Go.Proofs.Ytdgmmffedhikcaa
/- What comes in reads as plain data, whatever its shape: readers of cells, put together as the type is. -/
namespace Go.Proofs.Ytdgmmffedhikcaa
set_option linter.unusedSimpArgs false
set_option linter.unusedVariables false
open Go.ChangeShapes Go.WideShapes Go.Deep

/-- How cells read as plain data, in a world. -/
abbrev Reader (α : Type) := World → List Value → α → Prop
/-- Whatever is laid at a type reads so. -/
def Opens (P : Program) (t : TypeId) {α : Type} (R : Reader α) : Prop :=
  ∀ (H : Type) (enc : TypeId × Value → H) (w : World) (base : Nat) (spare : Nat → Bool) (held : Bool) (fuel : Nat) (cs : List Value) (x : DataW H × List MemPlace),
    DataW.trod enc P w base spare held fuel t cs = some x → ∃ y, R w cs y
/-- A reader that minds only what was there. -/
def Keeps {α : Type} (R : Reader α) : Prop := ∀ (w w' : World) (cs : List Value) (y : α), More w w' → R w cs y → R w' cs y

def RInt (k : IntKind) : Reader Int := fun _ cs n => cs = [.int k n] ∧ (Lit.int k n).wf = true
def RBool : Reader Bool := fun _ cs b => cs = [.bool b]
def RStr : Reader ByteArray := fun _ cs s => cs = [.string s] ∧ s.size ≤ maxLen
def RNil : Reader Unit := fun _ cs _ => cs = []
def RCons {α β : Type} (n : Nat) (R : Reader α) (Q : Reader β) : Reader (α × β) := fun w cs y => R w (cs.take n) y.1 ∧ Q w (cs.drop n) y.2
def RArr {α : Type} (m n : Nat) (R : Reader α) : Reader (List α) := fun w cs L => cs.length = m * n ∧ L.length = m ∧ ∀ i (hi : i < L.length), R w ((cs.drop (i * n)).take n) L[i]
/-- A slice that reads as a list, each of its elements of n cells. -/
def SlP {α : Type} (n : Nat) (R : Reader α) (w : World) (v : Value) (L : List α) : Prop :=
  ∃ oa cap, v = .slice oa L.length cap ∧ (L.length : Int) ≤ 9223372036854775807 ∧
    (∀ i (hi : i < L.length), ∃ b off cs, oa = some ⟨b, off, none⟩ ∧ b < w.heap.size ∧ cs.length = n ∧ (∀ j, j < n → w.cell? ⟨b, off + i * n + j, none⟩ = cs[j]?) ∧ R w cs L[i]) ∧
    L.length ≤ cap ∧ cap ≤ maxLen ∧ (oa = none → cap = 0)
def RSl {α : Type} (n : Nat) (R : Reader α) : Reader (List α) := fun w cs L => ∃ v, cs = [v] ∧ SlP n R w v L

theorem Keeps.int (k : IntKind) : Keeps (RInt k) := fun _ _ _ _ _ h => h
theorem Keeps.bool : Keeps RBool := fun _ _ _ _ _ h => h
theorem Keeps.str : Keeps RStr := fun _ _ _ _ _ h => h
theorem Keeps.nil : Keeps RNil := fun _ _ _ _ _ h => h
theorem Keeps.cons {α β : Type} {n : Nat} {R : Reader α} {Q : Reader β} (h : Keeps R) (k : Keeps Q) : Keeps (RCons n R Q) := fun _ _ _ _ m ⟨a, b⟩ => ⟨h _ _ _ _ m a, k _ _ _ _ m b⟩
theorem Keeps.arr {α : Type} {m n : Nat} {R : Reader α} (h : Keeps R) : Keeps (RArr m n R) := fun _ _ _ _ mm ⟨a, b, c⟩ => ⟨a, b, fun i hi => h _ _ _ _ mm (c i hi)⟩
theorem SlP.keep {α : Type} {n : Nat} {R : Reader α} {w w' : World} {v : Value} {L : List α} (hR : Keeps R) (h : SlP n R w v L) (m : More w w') : SlP n R w' v L := by
  obtain ⟨oa, cap, h1, h2, h3, h4⟩ := h
  refine ⟨oa, cap, h1, h2, fun i hi => ?_, h4⟩
  obtain ⟨b, off, cs, e, hb, hl, hc, hr⟩ := h3 i hi
  exact ⟨b, off, cs, e, Nat.lt_of_lt_of_le hb m.size, hl, fun j hj => by rw [m.cells b _ hb]; exact hc j hj, hR _ _ _ _ m hr⟩
theorem Keeps.sl {α : Type} {n : Nat} {R : Reader α} (h : Keeps R) : Keeps (RSl n R) := fun _ _ _ _ m ⟨v, e, s⟩ => ⟨v, e, s.keep h m⟩

section
variable {P : Program} {t e : TypeId}
theorem Opens.int {k : IntKind} (ht : P.underlying t = some (.int k)) : Opens P t (RInt k) := fun _ _ _ _ _ _ _ _ _ h => by
  obtain ⟨n, rfl, _, hw⟩ := DataW.trod_int ht h
  exact ⟨n, rfl, hw⟩
theorem Opens.bool (ht : P.underlying t = some .bool) : Opens P t RBool := fun _ _ _ _ _ _ _ _ _ h => by
  obtain ⟨n, rfl, _⟩ := DataW.trod_bool ht h
  exact ⟨n, rfl⟩
theorem Opens.str (ht : P.underlying t = some .string) : Opens P t RStr := fun _ _ _ _ _ _ _ _ _ h => by
  obtain ⟨n, rfl, _, hl⟩ := DataW.trod_string ht h
  exact ⟨n, rfl, hl⟩
theorem SlP.nil {α : Type} (n : Nat) (R : Reader α) (w : World) : SlP n R w (.slice none 0 0) [] := ⟨none, 0, rfl, by simp, fun i hi => by simp at hi, by simp, by unfold maxLen; omega, fun _ => rfl⟩

theorem exists_list {α : Type} {p : Nat → α → Prop} : ∀ (n : Nat), (∀ i, i < n → ∃ y, p i y) → ∃ L : List α, L.length = n ∧ ∀ i (hi : i < L.length), p i L[i]
  | 0, _ => ⟨[], rfl, fun i hi => by simp at hi⟩
  | n + 1, h => by
    obtain ⟨L, hl, hp⟩ := exists_list n (fun i hi => h i (by omega))
    obtain ⟨y, hy⟩ := h n (by omega)
    refine ⟨L ++ [y], by simp [hl], fun i hi => ?_⟩
    simp at hi
    by_cases e : i < L.length
    · rw [List.getElem_append_left e]; exact hp i e
    · obtain rfl : i = L.length := by omega
      simp [hl, hy]

theorem Opens.sl {α : Type} {n : Nat} {R : Reader α} (ht : P.underlying t = some (.slice e)) (hn : P.cellsOf e = n) (hn1 : 1 ≤ n) (h : Opens P e R) : Opens P t (RSl n R) := fun H enc w base spare held fuel cs x hx => by
  rcases open_slice ht hx with ⟨rfl, _⟩ | ⟨a, len, cap, m, n', D, Pl, rfl, hb, hl, hm, hmm, _, hi⟩
  · exact ⟨[], _, rfl, SlP.nil n R w⟩
  · have hlm : len ≤ m := by rw [hmm]; split <;> omega
    rw [hn] at hi
    obtain ⟨L, hL, hp⟩ := exists_list (p := fun i y => ∃ cs, w.cells? base (a.add (i * n)) n = some cs ∧ R w cs y) len (fun i hil => by
      obtain ⟨cs', hc, ht'⟩ := hi i (by omega)
      obtain ⟨y, hy⟩ := h H enc w base spare held n' cs' _ ht'
      exact ⟨y, cs', hc, hy⟩)
    refine ⟨L, _, rfl, some a, cap, by rw [hL], by rw [hL]; unfold maxLen at hm; omega, fun i hil => ?_, by rw [hL]; exact hl, hm, fun h => by cases h⟩
    obtain ⟨cs', hc, hr⟩ := hp i hil
    obtain ⟨_, hcl, hat⟩ := World.cells?_some hc
    have h0 := hat 0 (by omega)
    rw [List.getElem?_eq_getElem (by omega)] at h0
    have hs := cell_lt h0
    obtain ⟨b, off, sp⟩ := a
    have hadd : ∀ k, (⟨b, off, sp⟩ : Addr).add k = ⟨b, off + k, if k = 0 then sp else none⟩ := by
      intro k; unfold Addr.add; split
      · rename_i hk; subst hk; rfl
      · rfl
    have hb2 : b < w.heap.size := by
      have := hs.2
      rw [hadd] at this
      unfold Addr.add at this
      exact this
    have hsp : sp = none := by
      obtain ⟨cs0, hc0, _⟩ := hp 0 (by omega)
      obtain ⟨_, hcl0, hat0⟩ := World.cells?_some hc0
      have h00 := hat0 0 (by omega)
      rw [List.getElem?_eq_getElem (by omega)] at h00
      have hs0 := (cell_lt h00).1
      simp [Addr.add] at hs0
      exact hs0
    subst hsp
    refine ⟨b, off, cs', rfl, hb2, hcl, fun j hj => ?_, hr⟩
    rw [← hat j hj, hadd]
    have : (⟨b, off + i * n, if i * n = 0 then none else none⟩ : Addr) = ⟨b, off + i * n, none⟩ := by split <;> rfl
    rw [this]
    unfold Addr.add; split
    · rename_i h0; subst h0; rfl
    · rfl

/-- The fields of a struct, from one on. -/
def OpensF (P : Program) (fs : List Field) (off : Nat) {α : Type} (R : Reader α) : Prop :=
  ∀ (H : Type) (enc : TypeId × Value → H) (w : World) (base : Nat) (spare : Nat → Bool) (held : Bool) (n total : Nat) (cs : List Value), cs.length = total → total = off + (fs.map fun f => P.cellsOf f.type).sum →
    (∀ f ∈ fs, ∃ x, DataW.trod enc P w base spare held n f.type ((cs.drop f.offset).take (P.cellsOf f.type)) = some x) → ∃ y, R w (cs.drop off) y
theorem OpensF.nil {off : Nat} : OpensF P [] off RNil := fun _ _ _ _ _ _ _ _ cs hl ht _ => ⟨(), by
  simp at ht
  exact List.drop_eq_nil_of_le (by omega)⟩
theorem OpensF.cons {α β : Type} {f : Field} {fs : List Field} {off n : Nat} {R : Reader α} {Q : Reader β} (ho : f.offset = off) (hn : P.cellsOf f.type = n) (h : Opens P f.type R) (k : OpensF P fs (off + n) Q) : OpensF P (f :: fs) off (RCons n R Q) := fun H enc w base spare held m total cs hl ht hx => by
  obtain ⟨x, hx0⟩ := hx f (by simp)
  obtain ⟨y, hy⟩ := h H enc w base spare held m _ x hx0
  obtain ⟨z, hz⟩ := k H enc w base spare held m total cs hl (by rw [ht]; simp [hn]; omega) (fun g hg => hx g (by simp [hg]))
  rw [ho, hn] at hy
  exact ⟨(y, z), hy, by rw [List.drop_drop]; exact hz⟩
theorem Opens.struct {α : Type} {fs : Array Field} {R : Reader α} (ht : P.underlying t = some (.struct fs)) (hc : P.cellsOf t = (fs.toList.map fun f => P.cellsOf f.type).sum) (h : OpensF P fs.toList 0 R) : Opens P t R := fun H enc w base spare held fuel cs x hx => by
  obtain ⟨xs, n, _, _, hl, hxl, hf⟩ := DataW.trod_struct ht hx
  obtain ⟨y, hy⟩ := h H enc w base spare held n _ cs rfl (by rw [hl, hc]; omega) (fun f hf' => by
    obtain ⟨i, hi, rfl⟩ := List.mem_iff_getElem.1 hf'
    have hi' : i < fs.size := by simpa using hi
    have := hf i fs[i] (by simp [hi'])
    rw [List.getElem?_eq_getElem (by omega)] at this
    exact ⟨_, by simpa using this⟩)
  exact ⟨y, by simpa using hy⟩
theorem Opens.arr {α : Type} {m n : Nat} {R : Reader α} (ht : P.underlying t = some (.array m e)) (hn : P.cellsOf e = n) (hc : P.cellsOf t = m * n) (h : Opens P e R) : Opens P t (RArr m n R) := fun H enc w base spare held fuel cs x hx => by
  obtain ⟨xs, n', _, _, hl, hxl, hf⟩ := DataW.trod_array ht hx
  rw [hn] at hf
  obtain ⟨L, hL, hp⟩ := exists_list (p := fun i y => R w ((cs.drop (i * n)).take n) y) m (fun i hi => by
    have := hf i hi
    rw [List.getElem?_eq_getElem (by omega)] at this
    exact h H enc w base spare held n' _ _ this)
  exact ⟨L, by rw [hl, hc], hL, hp⟩
end

/-- A slice of integers. -/
theorem SlP.ints {k : IntKind} {w : World} {v : Value} {L : List Int} (h : SlP 1 (RInt k) w v L) : SlI k w v L ∧ ∀ n ∈ L, (Lit.int k n).wf = true := by
  obtain ⟨oa, cap, h1, h2, h3, h4⟩ := h
  refine ⟨⟨oa, cap, h1, h2, fun i hi => ?_, h4⟩, fun n hn => ?_⟩
  · obtain ⟨b, off, cs, e, hb, hl, hc, hr, _⟩ := h3 i hi
    refine ⟨b, off, e, hb, ?_⟩
    have := hc 0 (by omega)
    rw [hr] at this
    simpa [hi] using this
  · obtain ⟨i, hi, rfl⟩ := List.mem_iff_getElem.1 hn
    obtain ⟨b, off, cs, e, hb, hl, hc, hr, hw⟩ := h3 i hi
    exact hw
end Go.Proofs.Ytdgmmffedhikcaa
