/- Merged from my texts LaneA, LaneG, LaneH, LaneI. -/
import Derived.Test.YtdgmmffedhikcaaMg2
import Derived.Laws.CopyRow
import Derived.Laws.Rows
import Derived.Laws.Tables
import Derived.Laws.MakeOwn
import Derived.Deep.MidRow
import Derived.Test.YtdgmmffedhikcaaRows
import Derived.Lib.Hide
/- Rings of things of n cells: each thing a raw list of cells. Steps with many cells at once. -/
namespace Go.Proofs.Ytdgmmffedhikcaa
set_option linter.unusedSimpArgs false
set_option linter.unusedVariables false
open Go.RowKit
set_option maxRecDepth 100000

theorem lnBlk {w : World} {g e : Nat} {cur : Array Value} (h : w.heap[g]? = some (.cells cur e (0, 0))) (cs : Array Value) : (w.setRow g cs).heap[g]? = some (.cells cs e (0, 0)) := setRow_heap w g cur cs e (0, 0) h
theorem lnAway (w : World) (g : Nat) (cs : Array Value) : Away (fun k => k = g) w (w.setRow g cs) := by
  refine ⟨rfl, rfl, rfl, by simp [World.setRow], fun b hb hs => ?_⟩
  unfold World.setRow
  simp only
  rw [Array.getElem?_modify, if_neg (fun e => hs e.symm)]
theorem lnOther {w : World} {b g : Nat} {o : Obj} (h : w.heap[b]? = some o) (cs : Array Value) (hne : b ≠ g) : (w.setRow g cs).heap[b]? = some o := (lnAway w g cs).blk h hne
/-- A row that is laid anew. -/
theorem Away.row {S : Nat → Prop} {a b : World} (h : Away S a b) {g : Nat} (hg : S g) (cs : Array Value) : Away S a (b.setRow g cs) := h.trans ((lnAway b g cs).mono fun k e => by rw [e]; exact hg)
/-- A new row that is laid anew. -/
theorem Away.rowNew {S : Nat → Prop} {a b : World} (h : Away S a b) {g : Nat} (hg : a.heap.size ≤ g) (cs : Array Value) : Away S a (b.setRow g cs) := by
  have k := lnAway b g cs
  exact ⟨k.os.trans h.os, k.tape.trans h.tape, k.output.trans h.output, Nat.le_trans h.size k.size, fun i hi hs => by rw [k.block i (Nat.lt_of_lt_of_le hi h.size) (by omega)]; exact h.block i hi hs⟩
theorem Away.alc {S : Nat → Prop} {a b : World} (h : Away S a b) (o : Obj) : Away S a (b.alloc o) := h.more (More.alloc _ _)

theorem Away.of_grown {w w' : World} {v : Option Nat} (g : w.grownBy w' v) : Away (fun b => v = some b) w w' :=
  ⟨g.os, g.tape, g.output, g.size, fun k hk hs => g.block k hk (fun e => hs e.symm)⟩
theorem Away.grown {S : Nat → Prop} {a b c : World} (h : Away S a b) {v : Option Nat} (g : b.grownBy c v) (hv : ∀ k, v = some k → a.heap.size ≤ k) : Away S a c :=
  ⟨g.os.trans h.os, g.tape.trans h.tape, g.output.trans h.output, Nat.le_trans h.size g.size, fun k hk hs => by rw [g.block k (Nat.lt_of_lt_of_le hk h.size) (fun e => by have := hv k e.symm; omega)]; exact h.block k hk hs⟩

/-! Lists of chunks. -/
theorem lnGet {n : Nat} : ∀ (css : List (List Value)) (i j : Nat), (∀ c ∈ css, c.length = n) → i < css.length → j < n → css.flatten[i * n + j]? = (css.getD i [])[j]?
  | [], _, _, _, h, _ => absurd h (by simp)
  | c :: css, 0, j, hl, _, hj => by
    have := hl c (by simp)
    rw [List.flatten_cons, Nat.zero_mul, Nat.zero_add, List.getElem?_append_left (by omega)]
    rfl
  | c :: css, i + 1, j, hl, hi, hj => by
    have h1 := hl c (by simp)
    rw [List.flatten_cons, List.getElem?_append_right (by rw [h1, Nat.add_mul]; omega), h1, show (i + 1) * n + j - n = i * n + j by rw [Nat.add_mul]; omega]
    exact lnGet css i j (fun d hd => hl d (by simp [hd])) (by simpa using hi) hj
theorem lnLen {n : Nat} : ∀ (css : List (List Value)), (∀ c ∈ css, c.length = n) → css.flatten.length = css.length * n
  | [], _ => by simp
  | c :: css, h => by
    rw [List.flatten_cons, List.length_append, lnLen css fun d hd => h d (by simp [hd]), h c (by simp), List.length_cons, Nat.add_mul]
    omega
theorem lnMade (z : Array Value) (k n : Nat) (hk : z.size = k) (h0 : 0 < k) : madeCells z (n * k) = (List.replicate n z.toList).flatten.toArray := by
  apply Array.ext'
  apply List.ext_getElem?
  intro j
  have hall : ∀ c ∈ List.replicate n z.toList, c.length = k := fun c hc => by rw [List.eq_of_mem_replicate hc]; simpa using hk
  by_cases hj : j < n * k
  · have hq : j / k < n := by rw [Nat.div_lt_iff_lt_mul h0]; exact hj
    have ej : j / k * k + j % k = j := by rw [Nat.mul_comm]; exact Nat.div_add_mod j k
    have hm : j % k < z.size := by rw [hk]; exact Nat.mod_lt _ h0
    have := lnGet (n := k) (List.replicate n z.toList) (j / k) (j % k) hall (by simpa using hq) (Nat.mod_lt _ h0)
    rw [ej] at this
    show (madeCells z (n * k)).toList[j]? = (List.replicate n z.toList).flatten[j]?
    rw [this]
    unfold madeCells
    have hm' : j % k < z.size := hm
    simp [hj, hq, hk, List.getElem?_replicate]
    rw [Array.getElem?_eq_getElem hm, getElem!_pos z (j % k) hm]
  · have h1 : (madeCells z (n * k)).toList[j]? = none := by rw [List.getElem?_eq_none_iff, Array.length_toList, size_madeCells]; omega
    have h2 : (List.replicate n z.toList).flatten[j]? = none := by rw [List.getElem?_eq_none_iff, lnLen _ hall, List.length_replicate]; omega
    rw [h1]
    exact h2.symm
/-- A stretch of a row, laid anew. -/
def lnPut (cur : List Value) (o : Nat) (vs : List Value) : List Value := cur.take o ++ vs ++ cur.drop (o + vs.length)
theorem lnSet {n : Nat} : ∀ (css : List (List Value)) (k : Nat) (c : List Value), (∀ d ∈ css, d.length = n) → c.length = n → k < css.length → lnPut css.flatten (k * n) c = (css.set k c).flatten
  | [], _, _, _, _, h => absurd h (by simp)
  | d :: css, 0, c, hl, hc, _ => by
    have h1 := hl d (by simp)
    unfold lnPut
    rw [Nat.zero_mul, List.take_zero, List.nil_append, Nat.zero_add, List.flatten_cons, List.drop_append_of_le_length (by omega), List.drop_eq_nil_of_le (by omega), List.nil_append, List.set_cons_zero, List.flatten_cons]
  | d :: css, k + 1, c, hl, hc, hk => by
    have h1 := hl d (by simp)
    have ih := lnSet css k c (fun e he => hl e (by simp [he])) hc (by simpa using hk)
    unfold lnPut at ih ⊢
    rw [List.set_cons_succ, List.flatten_cons, List.flatten_cons, ← ih]
    have e1 : (k + 1) * n = d.length + k * n := by rw [h1, Nat.add_mul]; omega
    rw [e1, List.take_length_add_append, Nat.add_assoc, List.drop_length_add_append]
    simp

theorem lnRange {w : World} {g t : Nat} {cs : List Value} (h : w.heap[g]? = some (.cells cs.toArray t (0, 0))) : w.rangeAt g 0 cs := fun j v hv => by
  rw [cell_of_row w g (0 + j) cs.toArray t (0, 0) h, Nat.zero_add, List.getElem?_toArray]
  exact hv
/-! Steps of regions. -/
section
variable {P : Program} {C : World → Prop}
/-- A load of many cells that stays the same in all worlds of the class. -/
theorem num_load_mid {l : List Oper} {T : Nat} {Q : Act → World → Prop} {k : Nat} {o : Oper} {rest : List (Nat × Bool)} {a : Act} {w : World} (ho : l[k]? = some o) (hw : Region.wanted o (yielded l.toArray a.tmps) = true) (hC : C w)
    (ty : TypeId) (x : Operand) (hop : o.op = .load ty x) (b off : Nat) (hx : a.eval x = .pointer (some ⟨b, off, none⟩)) (cs : List Value) (d : TypeDesc) (hc : ∀ w, C w → w.rangeAt b off cs)
    (hu : P.underlying ty = some d) (hd : d.isRow = true) (hi : (P.info? ty).map (·.size) = some cs.length)
    (h : ∀ K : Act → Prop, (∀ a, wpNum P l T C Q rest a w → K a) → K (a.put o.dst (.agg cs.toArray))) : wpNum P l T C Q ((k, false) :: rest) a w :=
  num_quiet ho hw hC fun K hK => ⟨.agg cs.toArray, fun w hw => by
    unfold Oper.quietAt execOp
    simp only [hop, hx, Instr.loadAt, Instr.sureAddr, Sem.run_bind, Sem.run_pure, Result.andThen_ok, run_loadVar_mid w b off ty cs d (hc w hw) hu hd hi]
    exact ⟨rfl, rfl⟩, h K hK⟩
/-- A store of many cells into the middle of a block that is known whole. -/
theorem run_store_in {w : World} (ty : TypeId) (g off : Nat) (e : TypeId) (cur : Array Value) (cs : List Value) (hg : w.heap[g]? = some (.cells cur e (0, 0))) (hfit : off + cs.length ≤ cur.size)
    (hi : (P.info? ty).map (·.size) = some cs.length) (h1 : ∀ u ∈ cs, u.oneCell' = true) :
    (Instr.storeAt ty (.pointer (some ⟨g, off, none⟩)) (.agg cs.toArray)).run P w = .ok () (w.setRow g (lnPut cur.toList off cs).toArray) := by
  have hst := run_storeCells_at P g off e cs 0 cur w hg (by simpa using hfit) h1
  cases hq : P.info? ty with
  | none => simp [hq] at hi
  | some i =>
    have hs : cs.length = i.size := by simp [hq] at hi; omega
    simp only [Nat.add_zero] at hst
    unfold lnPut
    simp [Instr.storeAt, Instr.sureAddr, storeVar, sizeOf, typeInfo, hq, Value.cells, hs, hst]
theorem loud_store_in {o : Oper} {a : Act} {w : World} {K : Act → World → Prop} (ty : TypeId) (x y : Operand) (ho : o.op = .store ty x y) (g off : Nat) (e : TypeId) (cur : Array Value) (cs : List Value)
    (hx : a.eval x = .pointer (some ⟨g, off, none⟩)) (hy : a.eval y = .agg cs.toArray) (hg : w.heap[g]? = some (.cells cur e (0, 0))) (hfit : off + cs.length ≤ cur.size) (hi : (P.info? ty).map (·.size) = some cs.length) (h1 : ∀ u ∈ cs, u.oneCell' = true)
    (h : C (w.setRow g (lnPut cur.toList off cs).toArray) ∧ K (a.put o.dst undef) (w.setRow g (lnPut cur.toList off cs).toArray)) : loud P C o a w K := by
  unfold loud execOp
  simp only [ho, hx, hy, Sem.run_bind, Sem.run_pure, Result.andThen_ok, run_store_in ty g off e cur cs hg hfit hi h1]
  exact h
/-- .. into a whole variable. -/
theorem loud_store_all {o : Oper} {a : Act} {w : World} {K : Act → World → Prop} (ty : TypeId) (x y : Operand) (ho : o.op = .store ty x y) (g : Nat) (e : TypeId) (c c' : Array Value)
    (hx : a.eval x = .pointer (some ⟨g, 0, none⟩)) (hy : a.eval y = .agg c') (hg : w.heap[g]? = some (.cells c e (0, 0))) (hi : (P.info? ty).map (·.size) = some c'.size) (hs : c.size = c'.size) (h1 : c'.all (·.oneCell') = true)
    (h : C (w.setRow g c') ∧ K (a.put o.dst undef) (w.setRow g c')) : loud P C o a w K := by
  unfold loud execOp
  simp only [ho, hx, hy, Instr.storeAt, Instr.sureAddr, Sem.run_bind, Sem.run_pure, Result.andThen_ok, run_storeVar_row w g e ty c c' hg hi hs h1]
  exact h
theorem lnStore {ops : Array Oper} {rest : List Oper} {o : Oper} {a : Act} {w : World} {Q : Exit → Act → World → Prop} (hgd : o.guard = none) (ty : TypeId) (x y : Operand) (ho : o.op = .store ty x y)
    (g : Nat) (t : TypeId) (c c' : Array Value) (hg : w.heap[g]? = some (.cells c t (0, 0))) (hx : a.eval x = .pointer (some ⟨g, 0, none⟩)) (hy : a.eval y = .agg c')
    (hi : (P.info? ty).map (·.size) = some c'.size) (hs : c.size = c'.size) (h1 : c'.all (·.oneCell') = true)
    (h : wpList P ops Q rest (a.put o.dst undef) (w.setRow g c')) : wpList P ops Q (o :: rest) a w := by
  refine wpList_plain hgd fun K hK => ?_
  unfold Oper.wp execOp
  simp only [ho, hx, hy, Instr.storeAt, Instr.sureAddr, Sem.run_bind, Sem.run_pure, Result.andThen_ok, run_storeVar_row w g t ty c c' hg hi hs h1]
  exact hK _ _ h
/-- A guard ahead of an arm: is it this operation? -/
theorem lnIf {ops : Array Oper} {rest : List Oper} {o : Oper} {a : Act} {w : World} {Q : Exit → Act → World → Prop} (p : Op) (_ : o.op = p) (h : wpList P ops Q (o :: rest) a w) : wpList P ops Q (o :: rest) a w := h
theorem lnLoad {ops : Array Oper} {rest : List Oper} {o : Oper} {a : Act} {w : World} {Q : Exit → Act → World → Prop} (hgd : o.guard = none) (ty : TypeId) (x : Operand) (ho : o.op = .load ty x)
    (g : Nat) (t : TypeId) (c : Array Value) (d : TypeDesc) (hg : w.heap[g]? = some (.cells c t (0, 0))) (hx : a.eval x = .pointer (some ⟨g, 0, none⟩))
    (hu : P.underlying ty = some d) (hd : d.isRow = true) (hi : (P.info? ty).map (·.size) = some c.size)
    (h : wpList P ops Q rest (a.put o.dst (.agg c)) w) : wpList P ops Q (o :: rest) a w := by
  have hc : w.rangeAt g 0 c.toList := by
    have := World.rangeAt_of_block hg 0 c.size
    rw [Nat.zero_add, Array.extract_size] at this
    exact this
  have := wpList_load_mid (P := P) (ops := ops) (rest := rest) (op := o) (a := a) (w := w) (Q := Q) hgd ty x ho g 0 hx c.toList d hc hu hd (by rw [hi]; simp)
  simp only [Array.toArray_toList] at this
  exact this h
/-- clear of one thing. -/
theorem run_clear_in (w : World) (t ty e : TypeId) (z : Value) (zs : List Value) (ht : P.underlying t = some (.slice e)) (hv : ∀ w, (zeroValue e).run P w = .ok z w) (hz : (Builtin.zeroCells z.cells 1).toList = zs) (g o c : Nat) (cur : Array Value) (hg : w.heap[g]? = some (.cells cur e (0, 0)))
    (hfit : o + zs.length ≤ cur.size) (h1 : ∀ v ∈ zs, v.oneCell' = true) :
    (Builtin.clear_ #[t] ty #[.slice (some ⟨g, o, none⟩) 1 c]).run P w = .ok (.tuple #[]) (w.setRow g (lnPut cur.toList o zs).toArray) := by
  have hzc : Builtin.zeroCells z.cells 1 = zs.toArray := by
    rw [← hz]
  have hst := run_storeCells_at P g o e zs 0 cur w hg (by simpa using hfit) h1
  simp only [Nat.add_zero] at hst
  unfold lnPut
  simp [Builtin.clear_, run_underlying ht, hv w, hzc, hst]
end

/-! Rings. -/
def rgCells (A room first q : Nat) (ci co cd cg : Int) : Array Value :=
  #[.slice (some ⟨A, 0, none⟩) room room, .int .i64 first, .int .i64 q, .bool false, .int .i64 ci, .int .i64 co, .int .i64 cd, .int .i64 cg]
structure RgAt (n tr te : Nat) (w : World) (R A room first : Nat) (q : List (List Value)) (ci co cd cg : Int) (css : List (List Value)) : Prop where
  ring : w.heap[R]? = some (.cells (rgCells A room first q.length ci co cd cg) tr (0, 0))
  row : w.heap[A]? = some (.cells css.flatten.toArray te (0, 0))
  ne : R ≠ A
  len : css.length = room
  all : ∀ c ∈ css, c.length = n ∧ ∀ u ∈ c, u.oneCell' = true
  pos : 1 ≤ room ∧ room ≤ 8
  fst : first < room
  fits : q.length ≤ room
  holds : ∀ i, i < q.length → css.getD ((first + i) % room) [] = q.getD i []
/-- The two blocks of a ring. -/
def RgB (R A : Nat) (b : Nat) : Prop := b = R ∨ b = A
theorem lnMod (first i room : Nat) : ((first + 1) % room + i) % room = (first + (i + 1)) % room := by
  rw [Nat.mod_add_mod]; congr 1; omega
theorem lnIdx {first i room : Nat} (h : first < room) (hi : i < room) : (first + i) % room = if first + i < room then first + i else first + i - room := by
  split
  · exact Nat.mod_eq_of_lt (by assumption)
  · rw [Nat.mod_eq_sub_mod (by omega), Nat.mod_eq_of_lt (by omega)]
section
variable {n tr te : Nat} {w w' : World} {R A room first : Nat} {q : List (List Value)} {ci co cd cg : Int} {css : List (List Value)}
theorem RgAt.away {S : Nat → Prop} (h : RgAt n tr te w R A room first q ci co cd cg css) (a : Away S w w') (hR : ¬ S R) (hA : ¬ S A) : RgAt n tr te w' R A room first q ci co cd cg css :=
  { h with ring := a.blk h.ring hR, row := a.blk h.row hA }
theorem RgAt.more (h : RgAt n tr te w R A room first q ci co cd cg css) (m : More w w') : RgAt n tr te w' R A room first q ci co cd cg css :=
  { h with ring := blk_more m h.ring, row := blk_more m h.row }
theorem RgAt.ctr (h : RgAt n tr te w R A room first q ci co cd cg css) (i : Nat) (v : Value) {ci' co' cd' cg' : Int} (e : (rgCells A room first q.length ci co cd cg).setIfInBounds i v = rgCells A room first q.length ci' co' cd' cg') : RgAt n tr te (w.setCell ⟨R, i, none⟩ v) R A room first q ci' co' cd' cg' css :=
  { h with ring := blk_eq (blk_set h.ring i v) e, row := blk_other h.row _ _ (Ne.symm h.ne) }
theorem RgAt.popped (h : RgAt n tr te w R A room first q ci co cd cg css) (v : Int) : RgAt n tr te (w.setCell ⟨R, 5, none⟩ (.int .i64 v)) R A room first q ci v cd cg css := h.ctr 5 _ rfl
theorem RgAt.dropped (h : RgAt n tr te w R A room first q ci co cd cg css) (v : Int) : RgAt n tr te (w.setCell ⟨R, 6, none⟩ (.int .i64 v)) R A room first q ci co v cg css := h.ctr 6 _ rfl
theorem RgAt.drained (h : RgAt n tr te w R A room first q ci co cd cg css) (v : Int) : RgAt n tr te (w.setCell ⟨R, 7, none⟩ (.int .i64 v)) R A room first q ci co cd v css := h.ctr 7 _ rfl
/-- Results: a struct that lies in a block, and numbers. -/
theorem lnRes2 {P : Program} {fn : Func} {p u : Tmp} {ty : TypeId} (h : fn.results = #[.cell p ty, .tmp u]) (tmps : Array Value) (w : World) (g : Nat) (t : TypeId) (cs : Array Value) (d : TypeDesc) (v2 : Value)
    (hp : tmps.getD p undef = .pointer (some ⟨g, 0, none⟩)) (hq : tmps.getD u undef = v2) (hg : w.heap[g]? = some (.cells cs t (0, 0)))
    (hu : P.underlying ty = some d) (hd : (match d with | .struct _ | .array _ _ => true | _ => false) = true) (hi : (P.info? ty).map (·.size) = some cs.size) :
    (results fn tmps).run P w = .ok (.tuple #[.agg cs, v2]) w := by
  have hp' : tmps[p]?.getD undef = .pointer (some ⟨g, 0, none⟩) := by simpa using hp
  have hq' : tmps[u]?.getD undef = v2 := by simpa using hq
  simp [results, h, hp', hq', asAddr, run_loadVar_row w g t ty cs (0, 0) d hg hu hd hi]
theorem lnRes3 {P : Program} {fn : Func} {p u s : Tmp} {ty : TypeId} (h : fn.results = #[.cell p ty, .tmp u, .tmp s]) (tmps : Array Value) (w : World) (g : Nat) (t : TypeId) (cs : Array Value) (d : TypeDesc) (v2 v3 : Value)
    (hp : tmps.getD p undef = .pointer (some ⟨g, 0, none⟩)) (hq : tmps.getD u undef = v2) (hs : tmps.getD s undef = v3) (hg : w.heap[g]? = some (.cells cs t (0, 0)))
    (hu : P.underlying ty = some d) (hd : (match d with | .struct _ | .array _ _ => true | _ => false) = true) (hi : (P.info? ty).map (·.size) = some cs.size) :
    (results fn tmps).run P w = .ok (.tuple #[.agg cs, v2, v3]) w := by
  have hp' : tmps[p]?.getD undef = .pointer (some ⟨g, 0, none⟩) := by simpa using hp
  have hq' : tmps[u]?.getD undef = v2 := by simpa using hq
  have hs' : tmps[s]?.getD undef = v3 := by simpa using hs
  simp [results, h, hp', hq', hs', asAddr, run_loadVar_row w g t ty cs (0, 0) d hg hu hd hi]
theorem RgAt.cl (h : RgAt n tr te w R A room first q ci co cd cg css) : ∀ c ∈ css, c.length = n := fun c hc => (h.all c hc).1
theorem RgAt.size (h : RgAt n tr te w R A room first q ci co cd cg css) : css.flatten.toArray.size = room * n := by rw [List.size_toArray, lnLen css h.cl, h.len]
theorem RgAt.range (h : RgAt n tr te w R A room first q ci co cd cg css) {k : Nat} (hk : k < room) : w.rangeAt A (k * n) (css.getD k []) := fun j v hv => by
  have hkl : k < css.length := by rw [h.len]; exact hk
  have hcl : (css.getD k []).length = n := by
    rw [List.getD_eq_getElem?_getD, List.getElem?_eq_getElem hkl]; exact h.cl _ (List.getElem_mem hkl)
  have hj : j < n := by rw [← hcl]; exact (List.getElem?_eq_some_iff.1 hv).1
  rw [cell_of_row w A (k * n + j) css.flatten.toArray te (0, 0) h.row, List.getElem?_toArray, lnGet css k j h.cl hkl hj]
  exact hv
theorem RgAt.head {c : List Value} {T : List (List Value)} (h : RgAt n tr te w R A room first (c :: T) ci co cd cg css) : css.getD first [] = c := by
  have := h.holds 0 (by simp)
  rw [Nat.add_zero, Nat.mod_eq_of_lt h.fst] at this
  exact this
theorem RgAt.ofHead {c : List Value} {T : List (List Value)} (h : RgAt n tr te w R A room first (c :: T) ci co cd cg css) : c.length = n ∧ ∀ u ∈ c, u.oneCell' = true := by
  rw [← h.head]
  have hkl : first < css.length := by rw [h.len]; exact h.fst
  rw [List.getD_eq_getElem?_getD, List.getElem?_eq_getElem hkl]
  exact h.all _ (List.getElem_mem hkl)
theorem RgAt.qall (h : RgAt n tr te w R A room first q ci co cd cg css) : ∀ c ∈ q, c.length = n ∧ ∀ u ∈ c, u.oneCell' = true := fun c hc => by
  obtain ⟨i, hi, rfl⟩ := List.mem_iff_getElem.1 hc
  have := h.holds i hi
  rw [List.getD_eq_getElem?_getD, List.getD_eq_getElem?_getD, List.getElem?_eq_getElem hi, Option.getD_some] at this
  rw [← this]
  have hkl : (first + i) % room < css.length := by rw [h.len]; exact Nat.mod_lt _ (by have := h.pos; omega)
  rw [List.getElem?_eq_getElem hkl]
  exact h.all _ (List.getElem_mem hkl)
theorem set_all {p : List Value → Prop} {css : List (List Value)} {k : Nat} {z : List Value} (h : ∀ c ∈ css, p c) (hz : p z) : ∀ c ∈ css.set k z, p c := fun c hc => by
  rcases List.mem_or_eq_of_mem_set hc with h1 | rfl
  · exact h c h1
  · exact hz
theorem RgAt.took {c : List Value} {T : List (List Value)} (h : RgAt n tr te w R A room first (c :: T) ci co cd cg css) {z : List Value} (hz : z.length = n ∧ ∀ u ∈ z, u.oneCell' = true) {ci' co' cd' cg' : Int}
    (hring : w'.heap[R]? = some (.cells (rgCells A room ((first + 1) % room) T.length ci' co' cd' cg') tr (0, 0))) (hrow : w'.heap[A]? = some (.cells (css.set first z).flatten.toArray te (0, 0))) : RgAt n tr te w' R A room ((first + 1) % room) T ci' co' cd' cg' (css.set first z) := by
  have hfit := h.fits
  simp at hfit
  refine ⟨hring, hrow, h.ne, by rw [List.length_set]; exact h.len, set_all h.all hz, h.pos, Nat.mod_lt _ (by have := h.pos; omega), by omega, fun i hi => ?_⟩
  rw [lnMod]
  have hold := h.holds (i + 1) (by simp; omega)
  have hf := h.fst
  have hne : (first + (i + 1)) % room ≠ first := by
    intro e
    rw [lnIdx hf (by omega)] at e
    split at e <;> omega
  rw [List.getD_eq_getElem?_getD, List.getElem?_set_ne (Ne.symm hne), ← List.getD_eq_getElem?_getD, hold]
  rfl
theorem RgAt.put (h : RgAt n tr te w R A room first q ci co cd cg css) (hq : q.length < room) {c : List Value} (hc : c.length = n ∧ ∀ u ∈ c, u.oneCell' = true) {ci' co' cd' cg' : Int}
    (hring : w'.heap[R]? = some (.cells (rgCells A room first (q.length + 1) ci' co' cd' cg') tr (0, 0))) (hrow : w'.heap[A]? = some (.cells (css.set ((first + q.length) % room) c).flatten.toArray te (0, 0))) : RgAt n tr te w' R A room first (q ++ [c]) ci' co' cd' cg' (css.set ((first + q.length) % room) c) := by
  refine ⟨by simpa using hring, hrow, h.ne, by rw [List.length_set]; exact h.len, set_all h.all hc, h.pos, h.fst, by simp; omega, fun i hi => ?_⟩
  have hf := h.fst
  simp at hi
  by_cases e : i = q.length
  · subst e
    rw [List.getD_eq_getElem?_getD, List.getElem?_set_self (by rw [h.len]; exact Nat.mod_lt _ (by omega))]
    simp
  · have hne : (first + i) % room ≠ (first + q.length) % room := by
      intro e2
      rw [lnIdx hf (by omega), lnIdx hf hq] at e2
      split at e2 <;> split at e2 <;> omega
    rw [List.getD_eq_getElem?_getD, List.getElem?_set_ne (Ne.symm hne), ← List.getD_eq_getElem?_getD, h.holds i (by omega)]
    simp only [List.getD_eq_getElem?_getD]
    rw [List.getElem?_append_left (by omega)]
end
end Go.Proofs.Ytdgmmffedhikcaa
/- Contracts of package choose, and lane.there. -/
namespace Go.Proofs.Ytdgmmffedhikcaa
set_option linter.unusedSimpArgs false
set_option linter.unusedVariables false
open Go.RowKit
set_option maxRecDepth 100000

def thereL (n : Int) : Bool := decide (0 ≤ n ∧ n < 3)
theorem there_choose (n : Int) (w : World) : Calls Try.prog 90 #[.int .i64 n] w fun e w' => e = .returned (.bool (thereL n)) ∧ w' = w := by
  have H : Hid (thereL n = decide (0 ≤ n ∧ n < 3)) := Lib.hid rfl
  by_cases h1 : 0 ≤ n
  · by_cases h2 : n < 3
    · have h3 : thereL n = true := by rw [H.out]; simp [h1, h2]
      rw [h3]
      go_enter Try.func90, Try.ntmps90
      go_wp2
      all_goals (go_ret; first | exact ⟨rfl, rfl⟩ | omega)
    · have h3 : thereL n = false := by rw [H.out]; simp [h2]
      rw [h3]
      go_enter Try.func90, Try.ntmps90
      go_wp2
      all_goals (go_ret; first | exact ⟨rfl, rfl⟩ | omega)
  · have h3 : thereL n = false := by rw [H.out]; simp [h1]
    rw [h3]
    go_enter Try.func90, Try.ntmps90
    go_wp2
    all_goals (go_ret; first | exact ⟨rfl, rfl⟩ | omega)
theorem there_lane (n : Int) (w : World) : Calls Try.prog 39 #[.int .i64 n] w fun e w' => e = .returned (.bool (thereL n)) ∧ w' = w := by
  have H : Hid (thereL n = decide (0 ≤ n ∧ n < 3)) := Lib.hid rfl
  by_cases h1 : 0 ≤ n
  · by_cases h2 : n < 3
    · have h3 : thereL n = true := by rw [H.out]; simp [h1, h2]
      rw [h3]
      go_enter Try.func39, Try.ntmps39
      go_wp2
      all_goals (go_ret; first | exact ⟨rfl, rfl⟩ | omega)
    · have h3 : thereL n = false := by rw [H.out]; simp [h2]
      rw [h3]
      go_enter Try.func39, Try.ntmps39
      go_wp2
      all_goals (go_ret; first | exact ⟨rfl, rfl⟩ | omega)
  · have h3 : thereL n = false := by rw [H.out]; simp [h1]
    rw [h3]
    go_enter Try.func39, Try.ntmps39
    go_wp2
    all_goals (go_ret; first | exact ⟨rfl, rfl⟩ | omega)
theorem want_choose (c t n : Int) (hn : thereL n = true) (w : World) : Calls Try.prog 54 #[.agg #[.int .i64 c, .int .i64 t], .int .i64 n] w fun e w' => e = .returned (.tuple #[.agg #[.int .i64 c, .int .i64 n], .int .i64 0]) ∧ More w w' := by
  have HN := Lib.hid hn
  clear hn
  go_enter Try.func54, Try.ntmps54
  go_wp2_with (first | (go_at_call 90; ((with_reducible refine (there_choose n _).mono ?_); rintro e w1 ⟨rfl, rfl⟩; rw [HN.out])))
  refine bodyPost_ret (v := .tuple #[.agg #[.int .i64 c, .int .i64 n], .int .i64 0]) (by simp [results, Try.results54, go_sem]) rfl ?_
  exact ⟨rfl, (by repeat (first | exact More.refl _ | assumption | refine More.dr ?_ _ | refine More.al ?_ _ | refine More.st ?_ (by simp) _))⟩
end Go.Proofs.Ytdgmmffedhikcaa
/- Contracts of package choose: Start. -/
namespace Go.Proofs.Ytdgmmffedhikcaa
set_option linter.unusedSimpArgs false
set_option linter.unusedVariables false
open Go.RowKit
set_option maxRecDepth 100000

theorem start_choose (n : Int) (hn : thereL n = true) (w : World) : Calls Try.prog 55 #[.int .i64 n] w fun e w' => e = .returned (.tuple #[.agg #[.int .i64 (-1), .int .i64 n], .int .i64 0]) ∧ More w w' := by
  have HN := Lib.hid hn
  clear hn
  go_enter Try.func55, Try.ntmps55
  go_wp2_with (first | (go_at_call 54; ((with_reducible refine (want_choose (-1) 0 n HN.out _).mono ?_); rintro e w1 ⟨rfl, m1⟩; have B1 : Hid (w1.heap[w.heap.size]? = some (.cells #[.int .i64 0, .int .i64 0] 60 (0, 0))) := Lib.hid (blk_more m1 (blk_new _ _)); have M1 := Lib.hid ((More.alloc _ _).trans m1); clear m1)) | (refine lnIf (.store 60 (.tmp 2) (.tmp 7)) rfl ?_; refine lnStore rfl 60 (.tmp 2) (.tmp 7) rfl w.heap.size 60 _ #[.int .i64 (-1), .int .i64 n] B1.out rfl rfl (by kernel_rfl) rfl (all_oneCell_toArray (by simp [Value.oneCell'])) ?_))
  refine bodyPost_ret (v := .tuple #[.agg #[.int .i64 (-1), .int .i64 n], .int .i64 0]) (lnRes2 Try.results55 _ _ w.heap.size 60 #[.int .i64 (-1), .int .i64 n] _ _ rfl rfl (lnBlk B1.out _) Try.underlying60 rfl (by kernel_rfl)) rfl ?_
  exact ⟨rfl, (lnAway _ _ _).to_more M1.out (fun k e => by rw [e]; exact Nat.le_refl _)⟩
end Go.Proofs.Ytdgmmffedhikcaa
/- Contracts of package choose: Take, Pending. -/
namespace Go.Proofs.Ytdgmmffedhikcaa
set_option linter.unusedSimpArgs false
set_option linter.unusedVariables false
open Go.RowKit
set_option maxRecDepth 100000

theorem take_flows (c t n : Int) (k : Bool) (h1 : (n == c) = true) (h2 : (n != c) = false) (w : World) : Calls Try.prog 44 #[.agg #[.int .i64 c, .int .i64 t], .int .i64 n, .bool k] w fun e w' => e = .returned (.tuple #[.agg #[.int .i64 c, .int .i64 t], .int .i64 0, .bool false]) ∧ More w w' := by
  go_enter Try.func44, Try.ntmps44
  go_wp2
  refine bodyPost_ret (v := .tuple #[.agg #[.int .i64 c, .int .i64 t], .int .i64 0, .bool false]) (by simp [results, Try.results44, go_sem]) rfl ?_
  exact ⟨rfl, (by repeat (first | exact More.refl _ | assumption | refine More.dr ?_ _ | refine More.al ?_ _ | refine More.st ?_ (by simp) _))⟩
theorem take_first (c t n : Int) (k : Bool) (h1 : (n != c) = true) (h2 : (n == t) = true) (h3 : k = true) (w : World) : Calls Try.prog 44 #[.agg #[.int .i64 c, .int .i64 t], .int .i64 n, .bool k] w fun e w' => e = .returned (.tuple #[.agg #[.int .i64 n, .int .i64 t], .int .i64 0, .bool true]) ∧ More w w' := by
  go_enter Try.func44, Try.ntmps44
  go_wp2
  refine bodyPost_ret (v := .tuple #[.agg #[.int .i64 n, .int .i64 t], .int .i64 0, .bool true]) (by simp [results, Try.results44, go_sem]) rfl ?_
  exact ⟨rfl, (by repeat (first | exact More.refl _ | assumption | refine More.dr ?_ _ | refine More.al ?_ _ | refine More.st ?_ (by simp) _))⟩
theorem take_awaits (c t n : Int) (k : Bool) (h1 : (n != c) = true) (h0 : (n == c) = false) (h2 : (n == t) = true) (h3 : k = false) (w : World) : Calls Try.prog 44 #[.agg #[.int .i64 c, .int .i64 t], .int .i64 n, .bool k] w fun e w' => e = .returned (.tuple #[.agg #[.int .i64 c, .int .i64 t], .int .i64 5, .bool false]) ∧ More w w' := by
  go_enter Try.func44, Try.ntmps44
  go_wp2
  refine bodyPost_ret (v := .tuple #[.agg #[.int .i64 c, .int .i64 t], .int .i64 5, .bool false]) (by simp [results, Try.results44, go_sem]) rfl ?_
  exact ⟨rfl, (by repeat (first | exact More.refl _ | assumption | refine More.dr ?_ _ | refine More.al ?_ _ | refine More.st ?_ (by simp) _))⟩
theorem take_not (c t n : Int) (k : Bool) (h1 : (n != c) = true) (h0 : (n == c) = false) (h2 : (n == t) = false) (w : World) : Calls Try.prog 44 #[.agg #[.int .i64 c, .int .i64 t], .int .i64 n, .bool k] w fun e w' => e = .returned (.tuple #[.agg #[.int .i64 c, .int .i64 t], .int .i64 4, .bool false]) ∧ More w w' := by
  go_enter Try.func44, Try.ntmps44
  go_wp2
  refine bodyPost_ret (v := .tuple #[.agg #[.int .i64 c, .int .i64 t], .int .i64 4, .bool false]) (by simp [results, Try.results44, go_sem]) rfl ?_
  exact ⟨rfl, (by repeat (first | exact More.refl _ | assumption | refine More.dr ?_ _ | refine More.al ?_ _ | refine More.st ?_ (by simp) _))⟩
theorem pending_choose (c t : Int) (w : World) : Calls Try.prog 22 #[.agg #[.int .i64 c, .int .i64 t]] w fun e w' => e = .returned (.bool (c != t)) ∧ More w w' := by
  go_enter Try.func22, Try.ntmps22
  go_wp2
  go_ret
  exact ⟨rfl, (by repeat (first | exact More.refl _ | assumption | refine More.dr ?_ _ | refine More.al ?_ _ | refine More.st ?_ (by simp) _))⟩
end Go.Proofs.Ytdgmmffedhikcaa
