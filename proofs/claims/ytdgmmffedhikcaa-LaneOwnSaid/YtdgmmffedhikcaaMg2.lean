/- Merged from my texts Region. -/
import Derived.Test.YtdgmmffedhikcaaMg0
import Derived.BigQuiet
import Derived.Tactics2
/- A region that draws its order: operations that only read are taken as soon as they may come up, the others one by one, each where it alone may come up. One walk in a given order serves every order. -/
namespace Go.Proofs.Ytdgmmffedhikcaa
set_option linter.unusedSimpArgs false
set_option linter.unusedVariables false
open Go.RowKit

section
variable {P : Program} {ops : Array Oper} {md : Region.Mode} {C : World → Prop}

/-- By its form the operation is no call of a Go function. -/
def plainB : Op → Bool
  | .move _ | .assign _ | .pick .. | .load .. | .binOp .. | .unOp .. | .convert .. | .fieldAddr .. | .field .. | .indexAddr .. | .index .. | .slice .. | .build .. | .extract .. | .lookup .. | .typeAssert .. | .nilCheck _ => true
  | .call c => match c.callee with
    | .builtin .len | .builtin .cap | .builtin .max | .builtin .min => true
    | _ => false
  | _ => false

theorem no_enter {s : Sem Value} {w w' : World} {f : FuncId} {args : Array Value} : (do let x ← s; pure (Next.value x) : Sem Next).run P w ≠ .ok (.enter f args) w' := by
  rw [Sem.run_bind]
  cases s.run P w with
  | ok a w1 => simp [Result.andThen]
  | halt h w1 => simp [Result.andThen]

theorem bind_no_enter {α : Type} {s : Sem α} {g : α → Sem Next} {w w' : World} {f : FuncId} {args : Array Value} (h : ∀ a w1, (g a).run P w1 ≠ .ok (.enter f args) w') : (s >>= g).run P w ≠ .ok (.enter f args) w' := by
  rw [Sem.run_bind]
  cases s.run P w with
  | ok a w1 => exact h a w1
  | halt x w1 => simp [Result.andThen]
theorem panic_no_enter {e : RuntimeError} {w w' : World} {f : FuncId} {args : Array Value} : (runtimePanic e : Sem Next).run P w ≠ .ok (.enter f args) w' := by
  unfold runtimePanic
  refine bind_no_enter fun a w1 => ?_
  cases e
  case typeAssertion =>
    refine bind_no_enter fun b w2 => ?_
    refine bind_no_enter fun c w3 => ?_
    simp [goPanic]
  case panicNil =>
    refine bind_no_enter fun b w2 => ?_
    refine bind_no_enter fun c w3 => ?_
    simp [goPanic]
  all_goals simp [goPanic]
theorem nilCheck_no_enter {x : Operand} {dst : Option Tmp} {ty : TypeId} {pos : String} {aft : Array Edge} {gd : Option (Nat × Bool)} {ρ : Operand → Value} {w w' : World} {f : FuncId} {args : Array Value} :
    (execOp ρ { dst := dst, op := .nilCheck x, type := ty, pos := pos, after := aft, guard := gd }).run P w ≠ .ok (.enter f args) w' := by
  simp only [execOp]
  split
  · exact panic_no_enter
  · exact panic_no_enter
  · exact panic_no_enter
  · split
    · exact panic_no_enter
    · refine bind_no_enter fun a w1 => ?_
      refine bind_no_enter fun b w2 => ?_
      split
      · refine bind_no_enter fun c w3 => ?_
        simp
      · simp
    · simp
  · simp

theorem plain_no_enter {ρ : Operand → Value} {o : Oper} (h : plainB o.op = true) {w w' : World} {f : FuncId} {args : Array Value} : (execOp ρ o).run P w ≠ .ok (.enter f args) w' := by
  obtain ⟨dst, op, ty, pos, aft, gd⟩ := o
  cases op <;> simp only [plainB] at h <;> first | (cases h; done) | skip
  case move x => simp [execOp]
  case assign x => simp [execOp]
  case pick c a b =>
    simp only [execOp, Sem.run_bind]
    cases (asBool (ρ c)).run P w <;> simp [Result.andThen]
  case nilCheck x => exact nilCheck_no_enter
  case call c =>
    obtain ⟨callee, args', tys⟩ := c
    cases callee with
    | builtin b =>
      cases b <;> simp only at h <;> first | (cases h; done) | skip
      all_goals
        simp only [execOp, resolve, Sem.run_bind, Sem.run_pure, Result.andThen_ok, invoke, builtin]
        intro hc
        exact no_enter (by rw [Sem.run_bind]; exact hc)
    | value _ => cases h
    | invoke _ _ => cases h
  all_goals exact no_enter

/-- One operation, not called quiet: it yields a value, or calls; the world behind it is of the class. -/
def loud (P : Program) (C : World → Prop) (o : Oper) (a : Act) (w : World) (K : Act → World → Prop) : Prop :=
  match (execOp a.eval o).run P w with
  | .ok (.value v) w' => C w' ∧ K (a.put o.dst v) w'
  | .ok .skip w' => C w' ∧ K (a.put o.dst undef) w'
  | .ok (.enter f args) w' => Calls P f args w' fun e w'' => ∃ v, e = .returned v ∧ C w'' ∧ K (a.put o.dst v) w''
  | _ => False

def loudOp (P : Program) (ops : Array Oper) (C : World → Prop) (i : Nat) (K : Act → World → Prop) (a : Act) (w : World) : Prop :=
  match ops[i]? with
  | none => C w ∧ K a w
  | some o => if Region.wanted o (yielded ops a.tmps) then loud P C o a w K else C w ∧ K (a.put o.dst undef) w

theorem loud_mono {o : Oper} {a : Act} {w : World} {K K' : Act → World → Prop} (h : ∀ a w, C w → K a w → K' a w) (hh : loud P C o a w K) : loud P C o a w K' := by
  unfold loud at *
  generalize (execOp a.eval o).run P w = r at *
  cases r with
  | ok n w' =>
    cases n <;> simp only at hh ⊢
    case value v => exact ⟨hh.1, h _ _ hh.1 hh.2⟩
    case skip => exact ⟨hh.1, h _ _ hh.1 hh.2⟩
    case enter f args => exact hh.mono fun e w'' ⟨v, h1, h2, h3⟩ => ⟨v, h1, h2, h _ _ h2 h3⟩
  | halt x w' => simp only at hh

theorem loud_class {D D' : World → Prop} (hd : ∀ w, D w → D' w) {o : Oper} {a : Act} {w : World} {K : Act → World → Prop} (h : loud P D o a w K) : loud P D' o a w K := by
  unfold loud at *
  generalize (execOp a.eval o).run P w = r at *
  cases r with
  | ok n w' =>
    cases n <;> simp only at h ⊢
    case value v => exact ⟨hd _ h.1, h.2⟩
    case skip => exact ⟨hd _ h.1, h.2⟩
    case enter f args => exact h.mono fun e w'' ⟨v, h1, h2, h3⟩ => ⟨v, h1, hd _ h2, h3⟩
  | halt x w' => simp only at h

theorem loudOp_mono {i : Nat} {a : Act} {w : World} {K K' : Act → World → Prop} (h : ∀ a w, C w → K a w → K' a w) (hh : loudOp P ops C i K a w) : loudOp P ops C i K' a w := by
  unfold loudOp at *
  split
  · rename_i ho; simp only [ho] at hh; exact ⟨hh.1, h _ _ hh.1 hh.2⟩
  · rename_i o ho
    simp only [ho] at hh
    split
    · rename_i hw; simp only [hw, if_true] at hh; exact loud_mono h hh
    · rename_i hw; simp only [hw] at hh; exact ⟨hh.1, h _ _ hh.1 hh.2⟩

/-- What is asked of the world behind operation i: the class; of the last operations (from number T on) nothing. -/
def Dem (T : Nat) (C : World → Prop) (i : Nat) (w : World) : Prop := i < T → C w
theorem dem_of {T : Nat} {C : World → Prop} {i : Nat} {w : World} (h : C w) : Dem T C i w := fun _ => h

/-- Whatever order is picked from here on; every world on the way is of the class. -/
def wpAnyC (P : Program) (md : Region.Mode) (ops : Array Oper) (T : Nat) (C : World → Prop) (Q : Act → World → Prop) : Nat → Array Bool → Act → World → Prop
  | 0, listed, a, w => Region.ready md ops listed = [] ∧ Q a w
  | fuel + 1, listed, a, w =>
    (Region.ready md ops listed = [] → Q a w) ∧
    ∀ i ∈ Region.ready md ops listed, loudOp P ops (Dem T C i) i (wpAnyC P md ops T C Q fuel (listed.setIfInBounds i true)) a w

theorem wp_of_loud {o : Oper} {a : Act} {w : World} {K : Act → World → Prop} {Q : Exit → Act → World → Prop} (h : loud P C o a w K) : o.wp P a w K Q := by
  unfold loud at h
  unfold Oper.wp
  generalize (execOp a.eval o).run P w = r at *
  cases r with
  | ok n w' =>
    cases n <;> simp only at h <;> simp only [Oper.upon]
    case value v => exact h.2
    case skip => exact h.2
    case enter f args => exact h.mono fun e w'' ⟨v, h1, _, h3⟩ => by subst h1; exact h3
  | halt x w' => simp only at h

theorem wpAny_of_C {T : Nat} {Q : Act → World → Prop} {Q' : Exit → Act → World → Prop} (hQ : ∀ a w, Q a w → Q' .normal a w) : ∀ (fuel : Nat) (listed : Array Bool) (a : Act) (w : World),
    wpAnyC P md ops T C Q fuel listed a w → wpAny P md ops Q' fuel listed a w
  | 0, _, _, _, h => ⟨h.1, hQ _ _ h.2⟩
  | fuel + 1, _, _, _, h => ⟨fun h0 => hQ _ _ (h.1 h0), fun i hi => by
      have h2 := loudOp_mono (K' := wpAny P md ops Q' fuel _) (fun a' w' _ h' => wpAny_of_C hQ fuel _ a' w' h') (h.2 i hi)
      unfold loudOp at h2
      unfold wpOp
      split
      · rename_i ho; simp only [ho] at h2; exact h2.2
      · rename_i o ho
        simp only [ho] at h2
        split
        · rename_i hw; simp only [hw, if_true] at h2; exact .inl (wp_of_loud h2)
        · rename_i hw; simp only [hw] at h2; exact h2.2⟩

/-- In every world of the class the operation leaves v in its temporary, and the world alone. -/
def Calm (P : Program) (ops : Array Oper) (C : World → Prop) (o : Oper) (v : Value) (a : Act) : Prop :=
  (Region.wanted o (yielded ops a.tmps) = true ∧ ∀ w, C w → (execOp a.eval o).run P w = .ok (.value v) w ∨ ((execOp a.eval o).run P w = .ok .skip w ∧ v = undef)) ∨
  (Region.wanted o (yielded ops a.tmps) = false ∧ v = undef)

theorem Calm.of_same {o : Oper} {v : Value} {a a' : Act} (hy : Calm P ops C o v a) (he : execOp a'.eval o = execOp a.eval o)
    (hw : Region.wanted o (yielded ops a'.tmps) = Region.wanted o (yielded ops a.tmps)) : Calm P ops C o v a' := by
  unfold Calm at *
  rw [he, hw]
  exact hy

theorem Calm.op {D : World → Prop} {i : Nat} {o : Oper} {v : Value} {a : Act} {w : World} (hi : ops[i]? = some o) (hy : Calm P ops C o v a) (hC : C w) (hD : D w) {K : Act → World → Prop} (h : K (a.put o.dst v) w) : loudOp P ops D i K a w := by
  unfold loudOp
  simp only [hi]
  rcases hy with ⟨hw, hv⟩ | ⟨hw, rfl⟩
  · simp only [hw, if_true, loud]
    rcases hv w hC with e | ⟨e, rfl⟩
    · rw [e]; exact ⟨hD, h⟩
    · rw [e]; exact ⟨hD, h⟩
  · simp only [hw, Bool.false_eq_true, if_false]; exact ⟨hD, h⟩

theorem loudOp_put {D : World → Prop} {j : Nat} {oi oj : Oper} {v : Value} (hj : ops[j]? = some oj) (hap : oi.apart ops oj = true)
    (hsi : ∀ cs b, oi.op ≠ .select cs b) (hsj : ∀ cs b, oj.op ≠ .select cs b) {K : Act → World → Prop} {a : Act} {w : World}
    (hy : Calm P ops C oi v a) (h : loudOp P ops D j K (a.put oi.dst v) w) :
    loudOp P ops D j (fun a' w' => Calm P ops C oi v a' ∧ K (a'.put oi.dst v) w') a w := by
  obtain ⟨h1, h2, h3⟩ := Oper.apart_spec hap
  have keep : ∀ (a : Act), Calm P ops C oi v a → ∀ u, Calm P ops C oi v (a.put oj.dst u) := fun a hy u =>
    hy.of_same (execOp_put oi hsi a oj.dst u h3) (wanted_put oi a oj.dst u h3)
  unfold loudOp at *
  simp only [hj] at *
  rw [wanted_put oj a oi.dst v h1] at h
  split
  · rename_i hw
    simp only [hw, if_true] at h
    unfold loud at *
    rw [execOp_put oj hsj a oi.dst v h1] at h
    generalize (execOp a.eval oj).run P w = r at *
    cases r with
    | ok n w' =>
      cases n <;> simp only at h ⊢
      case value u => exact ⟨h.1, keep a hy u, by rw [← Act.put_comm a v u h2]; exact h.2⟩
      case skip => exact ⟨h.1, keep a hy _, by rw [← Act.put_comm a v undef h2]; exact h.2⟩
      case enter f args => exact h.mono fun e w'' ⟨u, e1, e2, e3⟩ => ⟨u, e1, e2, keep a hy u, by rw [← Act.put_comm a v u h2]; exact e3⟩
    | halt x w' => simp only at h
  · rename_i hw
    simp only [hw] at h
    exact ⟨h.1, keep a hy _, by rw [← Act.put_comm a v undef h2]; exact h.2⟩

/-- A calm operation that may come up now may be taken first. -/
theorem wpAnyC_first {T : Nat} {Q : Act → World → Prop} {i : Nat} {oi : Oper} {v : Value} (hi : ops[i]? = some oi) (hsel : ∀ (j : Nat) (o : Oper) cs b, ops[j]? = some o → o.op ≠ .select cs b)
    (hT : ∀ j oj, ops[j]? = some oj → T ≤ j → j ≠ i → ∃ e ∈ oj.after, Region.binds md e = true ∧ e.on = i) :
    ∀ (fuel : Nat) (listed : Array Bool) (a : Act) (w : World), C w →
      (∀ j oj, ops[j]? = some oj → j ≠ i → listed.getD j true = false → (∀ e ∈ oj.after, Region.binds md e = true → e.on ≠ i) → oi.apart ops oj = true) →
      i ∈ Region.ready md ops listed → Calm P ops C oi v a →
      wpAnyC P md ops T C Q fuel (listed.setIfInBounds i true) (a.put oi.dst v) w → wpAnyC P md ops T C Q (fuel + 1) listed a w := by
  intro fuel
  induction fuel with
  | zero =>
    intro listed a w hC _ hr hy H
    refine ⟨fun h => (by rw [h] at hr; cases hr), fun j hj => ?_⟩
    by_cases hji : j = i
    · subst hji; exact hy.op hi hC (dem_of hC) H
    · have := ready_mono hj hji
      rw [H.1] at this
      cases this
  | succ fuel ih =>
    intro listed a w hC hfree hr hy H
    refine ⟨fun h => (by rw [h] at hr; cases hr), fun j hj => ?_⟩
    by_cases hji : j = i
    · subst hji; exact hy.op hi hC (dem_of hC) H
    · have h1 := H.2 j (ready_mono hj hji)
      obtain ⟨hjun, oj, hoj, hall⟩ := mem_ready.1 hj
      have hnot : ∀ e ∈ oj.after, Region.binds md e = true → e.on ≠ i := fun e he hb heq => by
        have h1 := hall e he hb
        have h0 := (mem_ready.1 hr).1
        rw [heq] at h1
        rcases Nat.lt_or_ge i listed.size with h' | h'
        · simp [h'] at h0 h1; rw [h0] at h1; cases h1
        · simp [Array.getElem?_eq_none h'] at h1
      have h2 := loudOp_put hoj (hfree j oj hoj hji hjun hnot) (fun cs b => hsel i oi cs b hi) (fun cs b => hsel j oj cs b hoj) hy h1
      have hfree' : ∀ k ok, ops[k]? = some ok → k ≠ i → (listed.setIfInBounds j true).getD k true = false →
          (∀ e ∈ ok.after, Region.binds md e = true → e.on ≠ i) → oi.apart ops ok = true := fun k ok hk hki hun hno => by
        refine hfree k ok hk hki ?_ hno
        by_cases hjk : j = k
        · subst hjk; exact hjun
        · rw [getD_set_ne true hjk] at hun; exact hun
      have hjT : j < T := by
        rcases Nat.lt_or_ge j T with h | h
        · exact h
        · obtain ⟨e, he, hb, hon⟩ := hT j oj hoj h hji
          exact absurd hon (hnot e he hb)
      refine loudOp_mono (fun a' w' hC' h3 => ih (listed.setIfInBounds j true) a' w' (hC' hjT) hfree' (ready_mono hr (Ne.symm hji)) h3.1 ?_) h2
      rw [Array.setIfInBounds_comm _ _ hji]
      exact h3.2

/-- Each of the last operations waits for operation k. -/
def tailB (md : Region.Mode) (ops : Array Oper) (T k : Nat) : Bool :=
  (List.range ops.size).all fun j => decide (j < T) || j == k || ((ops[j]?).map fun o => o.after.any fun e => Region.binds md e && e.on == k).getD false
theorem tailB_spec {T k : Nat} (h : tailB md ops T k = true) (j : Nat) (oj : Oper) (hj : ops[j]? = some oj) (hT : T ≤ j) (hne : j ≠ k) : ∃ e ∈ oj.after, Region.binds md e = true ∧ e.on = k := by
  unfold tailB at h
  have hlt : j < ops.size := (Array.getElem?_eq_some_iff.1 hj).1
  have h1 := List.all_eq_true.1 h j (List.mem_range.2 hlt)
  rw [hj] at h1
  simp only [Option.map_some, Option.getD_some, Bool.or_eq_true, decide_eq_true_eq, beq_iff_eq] at h1
  rcases h1 with (h1 | h1) | h1
  · omega
  · exact absurd h1 hne
  · obtain ⟨e, he, hb⟩ := Array.any_eq_true'.1 h1
    simp only [Bool.and_eq_true, beq_iff_eq] at hb
    exact ⟨e, he, hb.1, hb.2⟩
/-- The order: each operation's number; true: it stands alone where it comes up. -/
def ordB (md : Region.Mode) (ops : Array Oper) (T : Nat) : List (Nat × Bool) → Array Bool → Bool
  | [], listed => (Region.ready md ops listed).isEmpty
  | (k, true) :: rest, listed => decide (Region.ready md ops listed = [k]) && ordB md ops T rest (listed.setIfInBounds k true)
  | (k, false) :: rest, listed => (Region.ready md ops listed).contains k && Region.free md ops listed k && ((ops[k]?).map (plainB ·.op)).getD false && tailB md ops T k && ordB md ops T rest (listed.setIfInBounds k true)

/-- The walk in that order. -/
def wpOrd (P : Program) (ops : Array Oper) (T : Nat) (C : World → Prop) (Q : Act → World → Prop) : List (Nat × Bool × Oper) → Act → World → Prop
  | [], a, w => Q a w
  | (k, true, o) :: rest, a, w => if Region.wanted o (yielded ops a.tmps) then loud P (Dem T C k) o a w (wpOrd P ops T C Q rest) else C w ∧ wpOrd P ops T C Q rest (a.put o.dst undef) w
  | (_, false, o) :: rest, a, w => C w ∧ if Region.wanted o (yielded ops a.tmps) then o.quiet P a C (fun a' => wpOrd P ops T C Q rest a' w) else wpOrd P ops T C Q rest (a.put o.dst undef) w

theorem calm_of_quiet {o : Oper} {a : Act} {K : Act → Prop} (hp : plainB o.op = true) (hw : Region.wanted o (yielded ops a.tmps) = true) (h : o.quiet P a C K) : ∃ v, Calm P ops C o v a ∧ K (a.put o.dst v) := by
  obtain ⟨v, h1, h2⟩ := h
  refine ⟨v, .inl ⟨hw, fun w hC => ?_⟩, h2⟩
  have h3 := h1 w hC
  unfold Oper.quietAt at h3
  have hne := fun f args w' => plain_no_enter (P := P) (ρ := a.eval) hp (w := w) (w' := w') (f := f) (args := args)
  generalize (execOp a.eval o).run P w = r at *
  cases r with
  | ok n w' =>
    cases n <;> simp only [Oper.quietUpon] at h3
    case value u => obtain ⟨rfl, rfl⟩ := h3; exact .inl rfl
    case skip => obtain ⟨rfl, rfl⟩ := h3; exact .inr ⟨rfl, rfl⟩
    case enter f args => exact absurd rfl (hne f args w')
  | halt x w' => simp only [Oper.quietUpon] at h3

theorem wpAnyC_ord {T : Nat} {Q : Act → World → Prop} (hs : Region.noSelect ops = true) : ∀ (l : List (Nat × Bool × Oper)) (listed : Array Bool) (a : Act) (w : World), (∀ x ∈ l, ops[x.1]? = some x.2.2) →
    ordB md ops T (l.map fun x => (x.1, x.2.1)) listed = true → wpOrd P ops T C Q l a w → wpAnyC P md ops T C Q l.length listed a w
  | [], _, _, _, _, hB, h => ⟨by simpa [ordB] using hB, h⟩
  | (k, true, o) :: l, listed, a, w, hl, hB, h => by
    have h0 : ops[k]? = some o := hl _ (List.mem_cons_self ..)
    simp only [List.map_cons, ordB, Bool.and_eq_true, decide_eq_true_eq] at hB
    obtain ⟨hr, hB'⟩ := hB
    refine ⟨fun h1 => (by rw [hr] at h1; cases h1), fun i hi => ?_⟩
    rw [hr] at hi
    obtain rfl : i = k := by simpa using hi
    unfold loudOp
    simp only [h0]
    unfold wpOrd at h
    split
    · rename_i hw
      rw [if_pos hw] at h
      exact loud_mono (fun a' w' _ h' => wpAnyC_ord hs l _ a' w' (fun x hx => hl x (List.mem_cons_of_mem _ hx)) hB' h') h
    · rename_i hw
      rw [if_neg hw] at h
      exact ⟨dem_of h.1, wpAnyC_ord hs l _ _ w (fun x hx => hl x (List.mem_cons_of_mem _ hx)) hB' h.2⟩
  | (k, false, o) :: l, listed, a, w, hl, hB, h => by
    have h0 : ops[k]? = some o := hl _ (List.mem_cons_self ..)
    simp only [List.map_cons, ordB, Bool.and_eq_true] at hB
    obtain ⟨⟨⟨⟨hr, hf⟩, hp⟩, ht⟩, hB'⟩ := hB
    rw [h0] at hp
    simp only [Option.map_some, Option.getD_some] at hp
    unfold wpOrd at h
    obtain ⟨hC, h⟩ := h
    obtain ⟨v, hy, hK⟩ : ∃ v, Calm P ops C o v a ∧ wpOrd P ops T C Q l (a.put o.dst v) w := by
      by_cases hw : Region.wanted o (yielded ops a.tmps) = true
      · rw [if_pos hw] at h
        exact calm_of_quiet hp hw h
      · rw [if_neg hw] at h
        exact ⟨undef, .inr ⟨by simpa using hw, rfl⟩, h⟩
    exact wpAnyC_first h0 (Region.noSelect_spec hs) (tailB_spec ht) l.length listed a w hC (Region.free_spec h0 hf) (by simpa using hr) hy
      (wpAnyC_ord hs l _ _ w (fun x hx => hl x (List.mem_cons_of_mem _ hx)) hB' hK)

/-- The walk over a list of numbers. -/
def wpNum (P : Program) (l : List Oper) (T : Nat) (C : World → Prop) (Q : Act → World → Prop) (n : List (Nat × Bool)) (a : Act) (w : World) : Prop :=
  wpOrd P l.toArray T C Q (n.map fun x => (x.1, x.2, l[x.1]?.getD default)) a w

section
variable {l : List Oper} {T : Nat} {Q : Act → World → Prop} {k : Nat} {b : Bool} {o : Oper} {rest : List (Nat × Bool)} {a : Act} {w : World}
theorem num_nil (h : Q a w) : wpNum P l T C Q [] a w := h
theorem num_quiet (ho : l[k]? = some o) (hw : Region.wanted o (yielded l.toArray a.tmps) = true) (hC : C w) (h : ∀ K : Act → Prop, (∀ a, wpNum P l T C Q rest a w → K a) → o.quiet P a C K) : wpNum P l T C Q ((k, false) :: rest) a w := by
  unfold wpNum
  rw [List.map_cons, ho, Option.getD_some]
  unfold wpOrd
  rw [if_pos hw]
  exact ⟨hC, h _ (fun a h => h)⟩
theorem num_skip (ho : l[k]? = some o) (hw : Region.wanted o (yielded l.toArray a.tmps) = false) (hC : C w) (h : wpNum P l T C Q rest (a.put o.dst undef) w) : wpNum P l T C Q ((k, b) :: rest) a w := by
  unfold wpNum at *
  rw [List.map_cons, ho, Option.getD_some]
  cases b
  all_goals
    unfold wpOrd
    rw [if_neg (by rw [hw]; exact Bool.false_ne_true)]
    exact ⟨hC, h⟩
theorem num_loud (ho : l[k]? = some o) (hw : Region.wanted o (yielded l.toArray a.tmps) = true) (h : ∀ K : Act → World → Prop, (∀ a w, wpNum P l T C Q rest a w → K a w) → loud P (Dem T C k) o a w K) : wpNum P l T C Q ((k, true) :: rest) a w := by
  unfold wpNum
  rw [List.map_cons, ho, Option.getD_some]
  unfold wpOrd
  rw [if_pos hw]
  exact h _ (fun a w h => h)
/-- One of the last operations: nothing is asked of the class. -/
theorem num_end (ho : l[k]? = some o) (hw : Region.wanted o (yielded l.toArray a.tmps) = true) (hk : T ≤ k) (h : ∀ K : Act → World → Prop, (∀ a w, wpNum P l T C Q rest a w → K a w) → loud P (fun _ => True) o a w K) : wpNum P l T C Q ((k, true) :: rest) a w :=
  num_loud ho hw fun K hK => by
    have h1 := h K hK
    exact loud_class (fun w _ => fun hlt => absurd hlt (by omega)) h1
/-- Any other one: the class is asked. -/
theorem num_next (ho : l[k]? = some o) (hw : Region.wanted o (yielded l.toArray a.tmps) = true) (h : ∀ K : Act → World → Prop, (∀ a w, wpNum P l T C Q rest a w → K a w) → loud P C o a w K) : wpNum P l T C Q ((k, true) :: rest) a w :=
  num_loud ho hw fun K hK => loud_class (fun _ h => dem_of h) (h K hK)
end

theorem wp_region_ord {id : Nat} {Q : Exit → Act → World → Prop} {a : Act} {w : World} {l : List Oper} (T : Nat) (n : List (Nat × Bool)) (hm : P.follows .mixedOrders = true)
    (hB : (Region.noSelect l.toArray && ordB .any l.toArray T n (Array.replicate l.length false) && decide (n.length = l.length) && n.all fun x => decide (x.1 < l.length)) = true)
    (h : wpNum P l T C (Q .normal) n a { w with drawn := w.drawn + 1 }) : (Code.region id l.toArray true).wp P Q a w := by
  simp only [Bool.and_eq_true, decide_eq_true_eq, List.all_eq_true] at hB
  obtain ⟨⟨⟨h1, h2⟩, h3⟩, h4⟩ := hB
  refine wp_region_any hm (wpAny_of_C (T := T) (C := C) (Q := Q .normal) (fun _ _ h => h) _ _ _ _ ?_)
  unfold wpNum at h
  have hl : (n.map fun x => (x.1, x.2, l[x.1]?.getD default)).length = l.toArray.size := by simp [h3]
  have key := wpAnyC_ord (md := .any) (T := T) (C := C) (Q := Q .normal) h1 (n.map fun x => (x.1, x.2, l[x.1]?.getD default)) (Array.replicate l.toArray.size false) a { w with drawn := w.drawn + 1 } ?_ ?_ h
  · rw [hl] at key; exact key
  · intro x hx
    obtain ⟨y, hy, rfl⟩ := List.mem_map.1 hx
    have := h4 y hy
    simp [this]
  · rw [List.map_map]
    have e : (n.map ((fun x : Nat × Bool × Oper => (x.1, x.2.1)) ∘ fun x : Nat × Bool => (x.1, x.2, l[x.1]?.getD default))) = n := by
      have : ((fun x : Nat × Bool × Oper => (x.1, x.2.1)) ∘ fun x : Nat × Bool => (x.1, x.2, l[x.1]?.getD default)) = fun x => x := rfl
      rw [this, List.map_id']
    rw [e]
    simpa using h2
end

/-- The worlds that come later: all blocks that were there, but for those that are named, are as they were. -/
structure Away (S : Nat → Prop) (w w' : World) : Prop where
  os : w'.os = w.os
  tape : w'.tape = w.tape
  output : w'.output = w.output
  size : w.heap.size ≤ w'.heap.size
  block : ∀ k, k < w.heap.size → ¬ S k → w'.heap[k]? = w.heap[k]?
theorem Away.refl (S : Nat → Prop) (w : World) : Away S w w := ⟨rfl, rfl, rfl, Nat.le_refl _, fun _ _ _ => rfl⟩
theorem Away.trans {S : Nat → Prop} {a b c : World} (h : Away S a b) (k : Away S b c) : Away S a c :=
  ⟨k.os.trans h.os, k.tape.trans h.tape, k.output.trans h.output, Nat.le_trans h.size k.size, fun i hi hs => (k.block i (Nat.lt_of_lt_of_le hi h.size) hs).trans (h.block i hi hs)⟩
theorem Away.to_more {S : Nat → Prop} {w a b : World} (m : More w a) (h : Away S a b) (hs : ∀ k, S k → w.heap.size ≤ k) : More w b :=
  ⟨h.os.trans m.os, h.tape.trans m.tape, h.output.trans m.output, Nat.le_trans m.size h.size, fun k hk => (h.block k (Nat.lt_of_lt_of_le hk m.size) (fun x => by have := hs k x; omega)).trans (m.block k hk)⟩
theorem Away.drewN {S : Nat → Prop} {a b : World} (h : Away S a b) (k : Nat) : Away S a (b.drewN k) := ⟨h.os, h.tape, h.output, h.size, h.block⟩
theorem Away.set {S : Nat → Prop} {a b : World} (h : Away S a b) {p : Addr} (hp : S p.block) (v : Value) : Away S a (b.setCell p v) :=
  ⟨h.os, h.tape, h.output, by simpa [World.setCell] using h.size, fun k hk hs => by rw [Below.heap_setCell _ _ _ _ (fun e => hs (by rw [e]; exact hp))]; exact h.block k hk hs⟩
theorem Away.more {S : Nat → Prop} {a b c : World} (h : Away S a b) (m : More b c) : Away S a c := h.trans ⟨m.os, m.tape, m.output, m.size, fun k hk _ => m.block k hk⟩
theorem Away.mono {S S' : Nat → Prop} {a b : World} (h : Away S a b) (hs : ∀ k, S k → S' k) : Away S' a b := ⟨h.os, h.tape, h.output, h.size, fun k hk hn => h.block k hk (fun x => hn (hs k x))⟩
theorem Away.blk {S : Nat → Prop} {a b : World} (h : Away S a b) {k : Nat} {o : Obj} (hk : a.heap[k]? = some o) (hs : ¬ S k) : b.heap[k]? = some o := by rw [h.block k (lt_of_block hk) hs]; exact hk
theorem Away.cells {S : Nat → Prop} {a b : World} (h : Away S a b) (k o : Nat) (hk : k < a.heap.size) (hs : ¬ S k) : b.cell? ⟨k, o, none⟩ = a.cell? ⟨k, o, none⟩ := World.cell?_of_block (h.block k hk hs)

/-- The worlds that come later, but for some blocks. -/
structure LaterS (S : Nat → Prop) (w : World) where
  w' : World
  h : Away S w w'
instance (S : Nat → Prop) (w : World) : Inhabited (LaterS S w) := ⟨⟨w, Away.refl S w⟩⟩
theorem LaterS.cell {S : Nat → Prop} {w : World} (x : LaterS S w) {b o : Nat} {v : Value} (hb : b < w.heap.size) (hs : ¬ S b) (h : w.cell? ⟨b, o, none⟩ = some v) : x.w'.cell? ⟨b, o, none⟩ = some v := by rw [x.h.cells b o hb hs]; exact h

theorem Away.of_more {S : Nat → Prop} {a b : World} (h : More a b) : Away S a b := ⟨h.os, h.tape, h.output, h.size, fun i hi _ => h.block i hi⟩

structure Later (w : World) where
  w' : World
  h : More w w'
instance (w : World) : Inhabited (Later w) := ⟨⟨w, More.refl w⟩⟩
/-- The class of the worlds that come later. -/
def InL (w0 : World) (w' : World) : Prop := ∃ x : Later w0, w' = x.w'
theorem InL.of {w0 w' : World} (h : More w0 w') : InL w0 w' := ⟨⟨w', h⟩, rfl⟩
theorem InL.more {w0 w' : World} (h : InL w0 w') : More w0 w' := by obtain ⟨x, rfl⟩ := h; exact x.h
theorem Later.cell {w : World} (x : Later w) {b o : Nat} {v : Value} (hb : b < w.heap.size) (h : w.cell? ⟨b, o, none⟩ = some v) : x.w'.cell? ⟨b, o, none⟩ = some v := by rw [x.h.cells b o hb]; exact h
theorem Later.new {w : World} {cs : Array Value} {t : TypeId} (x : Later (w.alloc (.cells cs t))) (o : Nat) {v : Value} (h : cs[o]? = some v) : x.w'.cell? ⟨w.heap.size, o, none⟩ = some v := by
  rw [x.h.cells _ _ (by show w.heap.size < (w.heap.push _).size; simp)]
  rw [cell_of_row _ w.heap.size o cs t (0, 0) (heap_alloc_new w _)]; exact h

/-- A quiet region, in the class of the later worlds. -/
theorem wp_region_later {P : Program} {id : Nat} {Q : Exit → Act → World → Prop} {a : Act} {w : World} {l : List Oper} (w0 : World) (h0 : More w0 w) (hm : P.follows .mixedOrders = true) (hB : Region.lexB .any l.toArray = true)
    (h : wpQuiet P l.toArray (fun w' => ∃ x : Later w0, w' = x.w') (fun a' => ∀ w', (∃ x : Later w0, w' = x.w') → Q .normal a' w') l a) : (Code.region id l.toArray true).wp P Q a w :=
  wp_region_quiet (C := fun w' => ∃ x : Later w0, w' = x.w') hm hB ⟨⟨_, h0.trans (More.drewN w 1)⟩, rfl⟩ (by simpa using h)

/-- A callee's contract, met in a later world. -/
theorem calls_later {P : Program} {f : FuncId} {args : Array Value} {w0 : World} {x : Later w0} {v : Value} (h : Calls P f args x.w' fun e w' => e = .returned v ∧ More x.w' w') :
    Calls P f args x.w' fun e w'' => e = .returned v ∧ ∃ y : Later w0, w'' = y.w' :=
  h.mono fun _ _ ⟨he, hm⟩ => ⟨he, ⟨_, x.h.trans hm⟩, rfl⟩
theorem calls_later_drew {P : Program} {f : FuncId} {args : Array Value} {w0 : World} {x : Later w0} {v : Value} (h : Calls P f args x.w' fun e w' => e = .returned v ∧ ∃ k, w' = x.w'.drewN k) :
    Calls P f args x.w' fun e w'' => e = .returned v ∧ ∃ y : Later w0, w'' = y.w' :=
  calls_later (h.mono fun _ _ ⟨he, k, hk⟩ => ⟨he, by rw [hk]; exact More.drewN _ _⟩)
theorem calls_later_same {P : Program} {f : FuncId} {args : Array Value} {w0 : World} {x : Later w0} {v : Value} (h : Calls P f args x.w' fun e w' => e = .returned v ∧ w' = x.w') :
    Calls P f args x.w' fun e w'' => e = .returned v ∧ ∃ y : Later w0, w'' = y.w' :=
  calls_later (h.mono fun _ _ ⟨he, hk⟩ => ⟨he, by rw [hk]; exact More.refl _⟩)

/-- The rule, in the class of the worlds that come later. -/
theorem wp_region_num {P : Program} {id : Nat} {Q : Exit → Act → World → Prop} {a : Act} {w : World} {l : List Oper} (w0 : World) (T : Nat) (n : List (Nat × Bool)) (hm : P.follows .mixedOrders = true)
    (hB : (Region.noSelect l.toArray && ordB .any l.toArray T n (Array.replicate l.length false) && decide (n.length = l.length) && n.all fun x => decide (x.1 < l.length)) = true)
    (h : wpNum P l T (fun w' => ∃ x : Later w0, w' = x.w') (Q .normal) n a (w.drewN 1)) : (Code.region id l.toArray true).wp P Q a w :=
  wp_region_ord (C := fun w' => ∃ x : Later w0, w' = x.w') T n hm hB h
theorem wp_region_numS {P : Program} {id : Nat} {Q : Exit → Act → World → Prop} {a : Act} {w : World} {l : List Oper} (S : Nat → Prop) (w0 : World) (T : Nat) (n : List (Nat × Bool)) (hm : P.follows .mixedOrders = true)
    (hB : (Region.noSelect l.toArray && ordB .any l.toArray T n (Array.replicate l.length false) && decide (n.length = l.length) && n.all fun x => decide (x.1 < l.length)) = true)
    (h : wpNum P l T (fun w' => ∃ x : LaterS S w0, w' = x.w') (Q .normal) n a (w.drewN 1)) : (Code.region id l.toArray true).wp P Q a w :=
  wp_region_ord (C := fun w' => ∃ x : LaterS S w0, w' = x.w') T n hm hB h
theorem laterS_mk {S : Nat → Prop} {w0 w' : World} (h : Away S w0 w') : ∃ x : LaterS S w0, w' = x.w' := ⟨⟨w', h⟩, rfl⟩
theorem later_mk {w0 w' : World} (h : More w0 w') : ∃ x : Later w0, w' = x.w' := ⟨⟨w', h⟩, rfl⟩
/-- A block that is known whole. -/
theorem blk_cell {w : World} {b : Nat} {cs : Array Value} {t : TypeId} (h : w.heap[b]? = some (.cells cs t (0, 0))) (i : Nat) {v : Value} (hi : cs[i]? = some v) : w.cell? ⟨b, i, none⟩ = some v := by
  rw [cell_of_row w b i cs t (0, 0) h]; exact hi
theorem blk_free {w : World} {b : Nat} {cs : Array Value} {t : TypeId} (h : w.heap[b]? = some (.cells cs t (0, 0))) (i : Nat) : w.frozen? ⟨b, i, none⟩ = false := frozen_of_row w b i cs t h
theorem blk_lt {w : World} {b : Nat} {o : Obj} (h : w.heap[b]? = some o) : b < w.heap.size := lt_of_block h
theorem blk_more {w w' : World} {b : Nat} {o : Obj} (m : More w w') (h : w.heap[b]? = some o) : w'.heap[b]? = some o := by rw [m.block b (lt_of_block h)]; exact h
theorem blk_set {w : World} {b : Nat} {cs : Array Value} {t : TypeId} (h : w.heap[b]? = some (.cells cs t (0, 0))) (i : Nat) (v : Value) : (w.setCell ⟨b, i, none⟩ v).heap[b]? = some (.cells (cs.setIfInBounds i v) t (0, 0)) :=
  heap_setCell_same w b i cs t v h
theorem blk_other {w : World} {b : Nat} {o : Obj} (h : w.heap[b]? = some o) (a : Addr) (v : Value) (hne : b ≠ a.block) : (w.setCell a v).heap[b]? = some o := by
  rw [Below.heap_setCell _ _ _ _ hne]; exact h
theorem blk_new (w : World) (o : Obj) : (w.alloc o).heap[w.heap.size]? = some o := heap_alloc_new w o
theorem blk_new2 {w : World} {o : Obj} {n : Nat} (h : n = w.heap.size) : (w.alloc o).heap[n]? = some o := by subst h; exact heap_alloc_new w o

theorem blk_eq {w : World} {b : Nat} {cs cs' : Array Value} {t : TypeId} (h : w.heap[b]? = some (.cells cs t (0, 0))) (e : cs = cs') : w.heap[b]? = some (.cells cs' t (0, 0)) := by rw [← e]; exact h

theorem blk_drewN {w : World} {b : Nat} {o : Obj} (h : w.heap[b]? = some o) (k : Nat) : (w.drewN k).heap[b]? = some o := h
theorem blk_alloc {w : World} {b : Nat} {o : Obj} (h : w.heap[b]? = some o) (o' : Obj) : (w.alloc o').heap[b]? = some o := blk_more (More.alloc w o') h

theorem More.new {w w' : World} {cs : Array Value} {t : TypeId} (h : More (w.alloc (.cells cs t)) w') (o : Nat) {v : Value} (hv : cs[o]? = some v) : w'.cell? ⟨w.heap.size, o, none⟩ = some v :=
  (⟨w', h⟩ : Later (w.alloc (.cells cs t))).new o hv

end Go.Proofs.Ytdgmmffedhikcaa
