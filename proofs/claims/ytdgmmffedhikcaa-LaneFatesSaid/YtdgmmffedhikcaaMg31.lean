/- Merged from my texts MapA, MapB. -/
import Derived.Test.YtdgmmffedhikcaaMg2
import Derived.Maps.RangeRun
import Derived.ChangeMaps5
import Derived.Maps.OwnSet
/- Maps: what a map's block reads as, entry by entry. -/
namespace Go.Proofs.Ytdgmmffedhikcaa
set_option linter.unusedSimpArgs false
set_option linter.unusedVariables false
open Go.RowKit Go.ChangeMaps

section
variable {K V : Type} [DecidableEq K] {P : Program}

def lookI (k : K) : List (K × V) → Nat → Option (Nat × V)
  | [], _ => none
  | (a, v) :: l, i => if k = a then some (i, v) else lookI k l (i + 1)
/-- What lies under a key; laid there; taken off. -/
def mget : List (K × V) → K → Option V
  | [], _ => none
  | (a, v) :: l, k => if k = a then some v else mget l k
def mput : List (K × V) → K → V → List (K × V)
  | [], k, v => [(k, v)]
  | (a, b) :: l, k, v => if k = a then (k, v) :: l else (a, b) :: mput l k v
def mdel : List (K × V) → K → List (K × V)
  | [], _ => []
  | (a, b) :: l, k => if k = a then l else (a, b) :: mdel l k

theorem lookI_some {k : K} {v : V} : ∀ {L : List (K × V)} {i j : Nat}, lookI k L j = some (i, v) → j ≤ i ∧ L[i - j]? = some (k, v) ∧ mget L k = some v ∧ mdel L k = L.eraseIdx (i - j) ∧ ∀ u, mput L k u = L.set (i - j) (k, u)
  | [], _, _, h => by simp [lookI] at h
  | (a, b) :: l, i, j, h => by
    unfold lookI at h
    by_cases e : k = a
    · rw [if_pos e] at h
      cases h
      subst e
      simp [mget, mdel, mput]
    · rw [if_neg e] at h
      obtain ⟨h1, h2, h3, h4, h5⟩ := lookI_some h
      have e1 : i - j = (i - (j + 1)) + 1 := by omega
      refine ⟨by omega, by rw [e1]; simpa using h2, by simp [mget, e, h3], by rw [e1]; simp [mdel, e, h4], fun u => by rw [e1]; simp [mput, e, h5]⟩
theorem lookI_none {k : K} : ∀ {L : List (K × V)} {j : Nat}, lookI k L j = none → mget L k = none ∧ mdel L k = L ∧ k ∉ L.map Prod.fst ∧ ∀ u, mput L k u = L ++ [(k, u)]
  | [], _, _ => by simp [mget, mdel, mput]
  | (a, b) :: l, j, h => by
    unfold lookI at h
    by_cases e : k = a
    · rw [if_pos e] at h; cases h
    · rw [if_neg e] at h
      obtain ⟨h1, h2, h3, h4⟩ := lookI_none h
      refine ⟨by simp [mget, e, h1], by simp [mdel, e, h2], by simp [e] at h3 ⊢; exact h3, fun u => by simp [mput, e, h4]⟩
theorem lookI_get (k : K) (L : List (K × V)) (j : Nat) : (lookI k L j).map (·.2) = mget L k := by
  cases h : lookI k L j with
  | none => simp [(lookI_none h).1]
  | some x => obtain ⟨i, v⟩ := x; simp [(lookI_some h).2.2.1]

/-- Keys of a type: how they are found, and that they may be keys. -/
structure KeyOK (P : Program) (kt : TypeId) (ke : K → Value) : Prop where
  look : ∀ (V : Type) (ve : V → Value) (k : K) (L : List (K × V)) (es : List MapEntry) (w : World), es.map (fun e => (e.key, e.val)) = L.map (fun p => (ke p.1, ve p.2)) → (Instr.findKey kt (ke k) es).run P w = .ok ((lookI k L 0).map fun x => (x.1, ve x.2)) w
  check : ∀ b k w, (Instr.checkKey b 10000 kt (ke k)).run P w = .ok () w
  same : ∀ k, Instr.sameBits 10000 (ke k) (ke k) = true

theorem findNow_yes {ke : K → Value} {ve : V → Value} {kd : TypeDesc} (h : ∀ a b, Instr.sameNow kd (ke a) (ke b) = some (decide (a = b))) (k : K) : ∀ (L : List (K × V)) (es : List MapEntry) (i : Nat),
    es.map (fun e => (e.key, e.val)) = L.map (fun p => (ke p.1, ve p.2)) → Instr.findNow kd (ke k) es i = some ((lookI k L i).map fun x => (x.1, ve x.2))
  | [], [], _, _ => rfl
  | [], _ :: _, _, e => by simp at e
  | _ :: _, [], _, e => by simp at e
  | (a, v) :: l, x :: es, i, e => by
    simp only [List.map_cons, List.cons.injEq, Prod.mk.injEq] at e
    unfold Instr.findNow lookI
    rw [e.1.1, h]
    by_cases hk : k = a
    · simp [hk, e.1.2]
    · simp [hk, findNow_yes h k l es (i + 1) e.2]
omit [DecidableEq K] in
theorem findNow_no {ke : K → Value} {ve : V → Value} {kd : TypeDesc} (h : ∀ a b, Instr.sameNow kd (ke a) (ke b) = none) (k : K) : ∀ (L : List (K × V)) (es : List MapEntry) (i : Nat),
    es.map (fun e => (e.key, e.val)) = L.map (fun p => (ke p.1, ve p.2)) → Instr.findNow kd (ke k) es i = if L = [] then some none else none
  | [], [], _, _ => rfl
  | [], _ :: _, _, e => by simp at e
  | _ :: _, [], _, e => by simp at e
  | (a, v) :: l, x :: es, i, e => by
    simp only [List.map_cons, List.cons.injEq, Prod.mk.injEq] at e
    unfold Instr.findNow
    rw [e.1.1, h]
    simp
theorem findAsking_run {ke : K → Value} {ve : V → Value} {kt : TypeId} {w : World} (h : ∀ a b, (Op.equal kt (ke a) (ke b)).run P w = .ok (decide (a = b)) w) (k : K) : ∀ (L : List (K × V)) (es : List MapEntry) (i : Nat),
    es.map (fun e => (e.key, e.val)) = L.map (fun p => (ke p.1, ve p.2)) → (Instr.findAsking kt (ke k) es i).run P w = .ok ((lookI k L i).map fun x => (x.1, ve x.2)) w
  | [], [], _, _ => rfl
  | [], _ :: _, _, e => by simp at e
  | _ :: _, [], _, e => by simp at e
  | (a, v) :: l, x :: es, i, e => by
    simp only [List.map_cons, List.cons.injEq, Prod.mk.injEq] at e
    unfold Instr.findAsking lookI
    rw [Sem.run_bind, e.1.1, h]
    by_cases hk : k = a
    · simp [hk, Result.andThen, e.1.2, Sem.run, pure]
    · simp [hk, Result.andThen, findAsking_run h k l es (i + 1) e.2]
theorem KeyOK.of_now {kt : TypeId} {ke : K → Value} {kd : TypeDesc} (ht : P.underlying kt = some kd) (h : ∀ a b, Instr.sameNow kd (ke a) (ke b) = some (decide (a = b)))
    (hc : ∀ b k w, (Instr.checkKey b 10000 kt (ke k)).run P w = .ok () w) (hs : ∀ k, Instr.sameBits 10000 (ke k) (ke k) = true) : KeyOK P kt ke :=
  ⟨fun V ve k L es w e => by
    unfold Instr.findKey
    rw [Sem.run_bind, run_underlying ht]
    simp [Result.andThen, findNow_yes h k L es 0 e, Sem.run, pure], hc, hs⟩
theorem KeyOK.of_ask {kt : TypeId} {ke : K → Value} {kd : TypeDesc} (ht : P.underlying kt = some kd) (h : ∀ a b, Instr.sameNow kd (ke a) (ke b) = none) (hq : ∀ a b w, (Op.equal kt (ke a) (ke b)).run P w = .ok (decide (a = b)) w)
    (hc : ∀ b k w, (Instr.checkKey b 10000 kt (ke k)).run P w = .ok () w) (hs : ∀ k, Instr.sameBits 10000 (ke k) (ke k) = true) : KeyOK P kt ke :=
  ⟨fun V ve k L es w e => by
    unfold Instr.findKey
    rw [Sem.run_bind, run_underlying ht]
    simp only [Result.andThen, findNow_no h k L es 0 e]
    by_cases hL : L = []
    · subst hL
      simp [lookI, Sem.run, pure]
    · simp [hL, findAsking_run (fun a b => hq a b w) k L es 0 e], hc, hs⟩

/-- Block b is a map that reads as L. -/
structure MapAt (w : World) (b : Nat) (ke : K → Value) (ve : V → Value) (L : List (K × V)) : Prop where
  ex : ∃ es clock, w.heap[b]? = some (.map es clock) ∧ es.toList.map (fun e => (e.key, e.val)) = L.map (fun p => (ke p.1, ve p.2)) ∧ (es.toList.map (·.born)).Nodup ∧ ∀ e ∈ es.toList, e.born < clock
  keys : (L.map Prod.fst).Nodup
variable {w : World} {b : Nat} {ke : K → Value} {ve : V → Value} {L : List (K × V)}
omit [DecidableEq K] in
theorem MapAt.lt (h : MapAt w b ke ve L) : b < w.heap.size := by obtain ⟨⟨_, _, hb, _⟩, _⟩ := h; exact lt_of_block hb
omit [DecidableEq K] in
theorem MapAt.made (w : World) (ke : K → Value) (ve : V → Value) : MapAt (w.alloc (.map #[] 0)) w.heap.size ke ve [] :=
  ⟨⟨#[], 0, blk_new _ _, rfl, by simp, by simp⟩, by simp⟩
omit [DecidableEq K] in
theorem MapAt.away {w' : World} {S : Nat → Prop} (h : MapAt w b ke ve L) (m : Away S w w') (hs : ¬ S b) : MapAt w' b ke ve L := by
  obtain ⟨⟨es, c, hb, r⟩, k⟩ := h
  exact ⟨⟨es, c, m.blk hb hs, r⟩, k⟩
omit [DecidableEq K] in
theorem MapAt.more {w' : World} (h : MapAt w b ke ve L) (m : More w w') : MapAt w' b ke ve L := h.away (Away.of_more (S := fun _ => False) m) (fun x => x)
theorem run_setObj_map {w : World} {b : Nat} {es : Array MapEntry} {c : Nat} (hb : w.heap[b]? = some (.map es c)) (o' : Obj) : (setObj b o').run P w = .ok () (setBlock w b o') := by
  simp [setObj, Sem.run, hb, setBlock]
theorem run_getObj_map {w : World} {b : Nat} {es : Array MapEntry} {c : Nat} (hb : w.heap[b]? = some (.map es c)) : (getObj b).run P w = .ok (.map es c) w := by
  simp [getObj, Sem.run, hb]
theorem away_setBlock (w : World) (b : Nat) (o : Obj) : Away (fun x => x = b) w (setBlock w b o) :=
  ⟨rfl, rfl, rfl, by simp [setBlock], fun k _ hs => by
    simp only [setBlock]
    rw [Array.getElem?_setIfInBounds_ne (fun e => hs e.symm)]⟩
theorem setBlock_size (w : World) (b : Nat) (o : Obj) : (setBlock w b o).heap.size = w.heap.size := by simp [setBlock]

theorem MapAt.look {kt et t : TypeId} {z : Value} (h : MapAt w b ke ve L) (KO : KeyOK P kt ke) (ht : P.underlying t = some (.map kt et)) (hz : (zeroValue et).run P w = .ok z w) (k : K) (c : Bool) :
    (Instr.lookup t (.map (some b)) (ke k) c).run P w = .ok (if c then .tuple #[((mget L k).map ve).getD z, .bool (mget L k).isSome] else ((mget L k).map ve).getD z) w := by
  obtain ⟨⟨es, cl, hb, he, _⟩, _⟩ := h
  have hl := KO.look V ve k L es.toList w he
  have hg := lookI_get k L 0
  unfold Instr.lookup
  cases hq : lookI k L 0 with
  | none =>
    rw [hq] at hl hg
    simp only [Option.map_none] at hl hg
    simp [run_underlying ht, run_getObj_map hb, KO.check, hl, hz, ← hg, go_sem]
  | some x =>
    rw [hq] at hl hg
    simp only [Option.map_some] at hl hg
    simp [run_underlying ht, run_getObj_map hb, KO.check, hl, ← hg, go_sem]

theorem list_modify_map {es : List MapEntry} {i : Nat} {k v : Value} : (es.modify i fun e => { e with key := k, val := v }).map (fun e => (e.key, e.val)) = (es.map fun e => (e.key, e.val)).set i (k, v) := by
  induction es generalizing i with
  | nil => simp
  | cons x l ih =>
    cases i with
    | zero => simp [List.modify_cons]
    | succ i => simp [ih]
theorem list_modify_born {es : List MapEntry} {i : Nat} {k v : Value} : (es.modify i fun e => { e with key := k, val := v }).map (·.born) = es.map (·.born) := by
  induction es generalizing i with
  | nil => simp
  | cons x l ih =>
    cases i with
    | zero => simp [List.modify_cons]
    | succ i => simp [ih]
omit [DecidableEq K] in
theorem mput_keys_some {k : K} {u : V} {i : Nat} {v : V} (h : L[i]? = some (k, v)) : ((L.set i (k, u)).map Prod.fst) = L.map Prod.fst := by
  rw [List.map_set]
  refine List.ext_getElem? fun j => ?_
  rw [List.getElem?_set]
  by_cases hj : i = j
  · subst hj
    have hi : i < L.length := (List.getElem?_eq_some_iff.1 h).1
    have e := (List.getElem?_eq_some_iff.1 h).2
    simp [hi, e]
  · simp [hj]
theorem MapAt.update {kt et t : TypeId} (h : MapAt w b ke ve L) (KO : KeyOK P kt ke) (ht : P.underlying t = some (.map kt et)) (k : K) (u : V) :
    ∃ w', (Instr.mapUpdate t (.map (some b)) (ke k) (ve u)).run P w = .ok () w' ∧ MapAt w' b ke ve (mput L k u) ∧ Away (fun x => x = b) w w' ∧ w'.heap.size = w.heap.size := by
  obtain ⟨⟨es, cl, hb, he, hn, hc⟩, hk⟩ := h
  have hl := KO.look V ve k L es.toList w he
  unfold Instr.mapUpdate
  cases hq : lookI k L 0 with
  | none =>
    rw [hq] at hl
    simp only [Option.map_none] at hl
    obtain ⟨h1, h2, h3, h4⟩ := lookI_none hq
    refine ⟨setBlock w b (.map (es.push { key := ke k, val := ve u, born := cl }) (cl + 1)), ?_, ⟨⟨_, _, heap_setBlock_same hb _, ?_, ?_, ?_⟩, ?_⟩, away_setBlock _ _ _, setBlock_size _ _ _⟩
    · simp [run_underlying ht, run_getObj_map hb, KO.check, hl, run_setObj_map hb, go_sem]
    · rw [h4]; simp [he]
    · simp only [Array.toList_push, List.map_append, List.map_cons, List.map_nil]
      rw [List.nodup_append]
      refine ⟨hn, by simp, fun a ha c hc' => ?_⟩
      obtain ⟨e, he', rfl⟩ := List.mem_map.1 ha
      have := hc e he'
      simp at hc'
      omega
    · intro e he'
      simp at he'
      rcases he' with he' | rfl
      · have := hc e (by simpa using he'); omega
      · exact Nat.lt_succ_self _
    · rw [h4]
      rw [List.map_append, List.nodup_append]
      refine ⟨hk, by simp, fun a ha c hc' => ?_⟩
      simp at hc'
      subst hc'
      intro e
      subst e
      exact h3 ha
  | some x =>
    obtain ⟨i, v⟩ := x
    rw [hq] at hl
    simp only [Option.map_some] at hl
    obtain ⟨h1, h2, h3, h4, h5⟩ := lookI_some hq
    simp only [Nat.sub_zero] at h2 h4 h5
    have hi : (es.toList.map (fun e => (e.key, e.val)))[i]? = some (ke k, ve v) := by rw [he, List.getElem?_map, h2]; rfl
    rw [List.getElem?_map] at hi
    obtain ⟨e0, g0, g1⟩ := Option.map_eq_some_iff.1 hi
    have g2 : es[i]? = some e0 := by simpa using g0
    have g3 : e0.key = ke k := congrArg Prod.fst g1
    have hst : (Instr.keyThatStays (((es[i]?).map (·.key)).getD (ke k)) (ke k)).run P w = .ok (ke k) w := by
      rw [g2]
      simp only [Option.map_some, Option.getD_some, g3]
      unfold Instr.keyThatStays
      rw [KO.same]
      rfl
    refine ⟨setBlock w b (.map (es.modify i fun e => { e with key := ke k, val := ve u }) cl), ?_, ⟨⟨_, _, heap_setBlock_same hb _, ?_, ?_, ?_⟩, ?_⟩, away_setBlock _ _ _, setBlock_size _ _ _⟩
    · simp only [run_underlying ht, run_getObj_map hb, KO.check, hl, Sem.run_bind, Result.andThen, hst, run_setObj_map hb]
    · rw [h5, Array.toList_modify, list_modify_map, he, List.map_set]
    · rw [Array.toList_modify, list_modify_born]; exact hn
    · intro e he'
      have hm : e.born ∈ ((es.modify i fun e => { e with key := ke k, val := ve u }).toList.map (·.born)) := List.mem_map_of_mem he'
      rw [Array.toList_modify, list_modify_born] at hm
      obtain ⟨e1, m1, m2⟩ := List.mem_map.1 hm
      rw [← m2]
      exact hc e1 m1
    · rw [h5, mput_keys_some h2]; exact hk
end
end Go.Proofs.Ytdgmmffedhikcaa
/- Maps: taken off, counted, gone through; keys. -/
namespace Go.Proofs.Ytdgmmffedhikcaa
set_option linter.unusedSimpArgs false
set_option linter.unusedVariables false
open Go.RowKit Go.ChangeMaps
set_option linter.unusedSectionVars false

theorem nodup_len : ∀ {l m : List Nat}, l.Nodup → l ⊆ m → l.length ≤ m.length
  | [], _, _, _ => Nat.zero_le _
  | a :: t, m, h, hs => by
    simp only [List.nodup_cons] at h
    have ha : a ∈ m := hs List.mem_cons_self
    have ht : t ⊆ m.erase a := fun x hx => (List.mem_erase_of_ne (fun e => h.1 (by rw [← e]; exact hx))).2 (hs (List.mem_cons_of_mem _ hx))
    have h1 := nodup_len h.2 ht
    rw [List.length_erase_of_mem ha] at h1
    have := List.length_pos_of_mem ha
    simp only [List.length_cons]
    omega
theorem nodup_perm : ∀ {l m : List Nat}, l.Nodup → l ⊆ m → m.length ≤ l.length → l.Perm m
  | [], m, _, _, hl => by
    have : m = [] := List.eq_nil_of_length_eq_zero (by simpa using hl)
    rw [this]
  | a :: t, m, h, hs, hl => by
    simp only [List.nodup_cons] at h
    have ha : a ∈ m := hs List.mem_cons_self
    have ht : t ⊆ m.erase a := fun x hx => (List.mem_erase_of_ne (fun e => h.1 (by rw [← e]; exact hx))).2 (hs (List.mem_cons_of_mem _ hx))
    have h1 := nodup_perm h.2 ht (by rw [List.length_erase_of_mem ha]; simp at hl; omega)
    exact (h1.cons a).trans (List.perm_cons_erase ha).symm
section
variable {K V : Type} [DecidableEq K] {P : Program} {w : World} {b : Nat} {ke : K → Value} {ve : V → Value} {L : List (K × V)}
theorem MapAt.len {kt et t : TypeId} (h : MapAt w b ke ve L) (ht : P.underlying t = some (.map kt et)) (ty : TypeId) : (Builtin.len_ #[t] ty #[.map (some b)]).run P w = .ok (.int .i64 L.length) w := by
  obtain ⟨⟨es, cl, hb, he, _⟩, _⟩ := h
  have hl : es.size = L.length := by
    have := congrArg List.length he
    simpa using this
  unfold Builtin.len_
  simp [run_underlying ht, run_getObj_map hb, hl, goInt, go_sem]
theorem mdel_keys (k : K) : ∀ (L : List (K × V)), (L.map Prod.fst).Nodup → ((mdel L k).map Prod.fst).Nodup
  | [], h => h
  | (a, b) :: l, h => by
    simp only [List.map_cons, List.nodup_cons] at h
    unfold mdel
    split
    · exact h.2
    · simp only [List.map_cons, List.nodup_cons]
      refine ⟨fun hm => h.1 ?_, mdel_keys k l h.2⟩
      obtain ⟨x, hx, e⟩ := List.mem_map.1 hm
      rw [← e]
      refine List.mem_map_of_mem ?_
      clear h hm e
      induction l with
      | nil => exact hx
      | cons y l ih =>
        obtain ⟨c, d⟩ := y
        unfold mdel at hx
        split at hx
        · exact List.mem_cons_of_mem _ hx
        · rcases List.mem_cons.1 hx with rfl | hx
          · exact List.mem_cons_self
          · exact List.mem_cons_of_mem _ (ih hx)
theorem MapAt.drop {kt et t : TypeId} (h : MapAt w b ke ve L) (KO : KeyOK P kt ke) (ht : P.underlying t = some (.map kt et)) (k : K) (ty : TypeId) :
    ∃ w', (Builtin.delete_ #[t, kt] ty #[.map (some b), ke k]).run P w = .ok (.tuple #[]) w' ∧ MapAt w' b ke ve (mdel L k) ∧ Away (fun x => x = b) w w' ∧ w'.heap.size = w.heap.size := by
  have hkeys := mdel_keys k L h.keys
  obtain ⟨⟨es, cl, hb, he, hn, hc⟩, hk⟩ := h
  have hl := KO.look V ve k L es.toList w he
  unfold Builtin.delete_
  cases hq : lookI k L 0 with
  | none =>
    rw [hq] at hl
    simp only [Option.map_none] at hl
    obtain ⟨h1, h2, h3, h4⟩ := lookI_none hq
    refine ⟨setBlock w b (.map es cl), ?_, ⟨⟨es, cl, heap_setBlock_same hb _, by rw [h2]; exact he, hn, hc⟩, hkeys⟩, away_setBlock _ _ _, setBlock_size _ _ _⟩
    simp [run_underlying ht, run_getObj_map hb, KO.check, hl, run_setObj_map hb, go_sem]
  | some x =>
    obtain ⟨i, v⟩ := x
    rw [hq] at hl
    simp only [Option.map_some] at hl
    obtain ⟨h1, h2, h3, h4, h5⟩ := lookI_some hq
    simp only [Nat.sub_zero] at h2 h4 h5
    have hi : i < es.size := by
      have hl' := congrArg List.length he
      simp at hl'
      have := (List.getElem?_eq_some_iff.1 h2).1
      omega
    have er : (es.eraseIdxIfInBounds i).toList = es.toList.eraseIdx i := by simp [Array.eraseIdxIfInBounds, hi]
    refine ⟨setBlock w b (.map (es.eraseIdxIfInBounds i) cl), ?_, ⟨⟨_, _, heap_setBlock_same hb _, ?_, ?_, ?_⟩, hkeys⟩, away_setBlock _ _ _, setBlock_size _ _ _⟩
    · simp [run_underlying ht, run_getObj_map hb, KO.check, hl, run_setObj_map hb, go_sem]
    · rw [h4, er, map_eraseIdx, he, map_eraseIdx]
    · rw [er, map_eraseIdx]; exact List.Nodup.sublist (List.eraseIdx_sublist _ _) hn
    · intro e hm
      rw [er] at hm
      exact hc e (List.Sublist.mem hm (List.eraseIdx_sublist _ _))

/-- Block r goes through map b; out: what came out of it so far, by its places. -/
structure RangeAt (w : World) (r b : Nat) (ke : K → Value) (ve : V → Value) (L : List (K × V)) (is : List Nat) : Prop where
  ex : ∃ (es : Array MapEntry) (clock since c0 : Nat) (seen : Array Nat), w.heap[r]? = some (.mapIter (some b) since seen c0) ∧ w.heap[b]? = some (.map es clock) ∧ seen.toList = is.map (fun i => (es[i]?.map (·.born)).getD 0) ∧
    es.toList.map (fun e => (e.key, e.val)) = L.map (fun p => (ke p.1, ve p.2)) ∧ (es.toList.map (·.born)).Nodup ∧ (∀ e ∈ es.toList, e.born < since) ∧ since ≤ c0 ∧ since ≤ clock ∧ (∀ e ∈ es.toList, e.born < clock)
  nd : is.Nodup
  lt : ∀ i ∈ is, i < L.length
  keys : (L.map Prod.fst).Nodup
theorem RangeAt.map {r : Nat} {is : List Nat} (h : RangeAt w r b ke ve L is) : MapAt w b ke ve L := by
  obtain ⟨⟨es, cl, si, c0, seen, _, hb, _, he, hn, _, _, _, hc⟩, _, _, hk⟩ := h
  exact ⟨⟨es, cl, hb, he, hn, hc⟩, hk⟩
theorem RangeAt.away {r : Nat} {is : List Nat} {w' : World} {S : Nat → Prop} (h : RangeAt w r b ke ve L is) (m : Away S w w') (hr : ¬ S r) (hs : ¬ S b) : RangeAt w' r b ke ve L is := by
  obtain ⟨⟨es, cl, si, c0, seen, hr', hb, rest⟩, n, l, k⟩ := h
  exact ⟨⟨es, cl, si, c0, seen, m.blk hr' hr, m.blk hb hs, rest⟩, n, l, k⟩
theorem RangeAt.more {r : Nat} {is : List Nat} {w' : World} (h : RangeAt w r b ke ve L is) (m : More w w') : RangeAt w' r b ke ve L is := h.away (Away.of_more (S := fun _ => False) m) (fun x => x) (fun x => x)
theorem RangeAt.rlt {r : Nat} {is : List Nat} (h : RangeAt w r b ke ve L is) : r < w.heap.size := by
  obtain ⟨⟨es, cl, si, c0, seen, hr', _⟩, _⟩ := h
  exact lt_of_block hr'
/-- 'range m'. -/
theorem MapAt.range {kt et t : TypeId} (h : MapAt w b ke ve L) (ht : P.underlying t = some (.map kt et)) :
    ∃ w', (Instr.range t (.map (some b))).run P w = .ok (.pointer (some ⟨w.heap.size, 0, none⟩)) w' ∧ RangeAt w' w.heap.size b ke ve L [] ∧ More w w' ∧ w'.heap.size = w.heap.size + 1 := by
  obtain ⟨⟨es, cl, hb, he, hn, hc⟩, hk⟩ := h
  refine ⟨w.alloc (.mapIter (some b) cl #[] cl), ?_, ⟨⟨es, cl, cl, cl, #[], blk_new _ _, blk_alloc hb _, rfl, he, hn, hc, Nat.le_refl _, Nat.le_refl _, hc⟩, List.nodup_nil, by simp, hk⟩, More.alloc _ _, by simp⟩
  unfold Instr.range
  simp [run_underlying ht, run_getObj_map hb, go_sem]
/-- The step: it is over, or one that did not come out yet comes out. -/
theorem RangeAt.next {r : Nat} {is : List Nat} (h : RangeAt w r b ke ve L is) :
    (is.length = L.length ∧ ∀ ty, (Instr.next (.pointer (some ⟨r, 0, none⟩)) false ty).run P w = .ok (.tuple #[.bool false]) w) ∨
    ∃ (i : Nat) (hi : i < L.length) (w' : World), i ∉ is ∧ is.length < L.length ∧ (∀ ty, (Instr.next (.pointer (some ⟨r, 0, none⟩)) false ty).run P w = .ok (.tuple #[.bool true, ke L[i].1, ve L[i].2]) w') ∧
      RangeAt w' r b ke ve L (is ++ [i]) ∧ Away (fun x => x = r) w w' ∧ w'.heap.size = w.heap.size ∧ (Instr.entry (.pointer (some ⟨r, 0, none⟩))).run P w' = .ok (.tuple #[ke L[i].1, ve L[i].2]) w' := by
  obtain ⟨⟨es, cl, si, c0, seen, hr, hb, hsn, he, hn, hs, h0, h1, hc⟩, nd, lt, hk⟩ := h
  have hlen : es.size = L.length := by
    have := congrArg List.length he
    simpa using this
  have hborn : ∀ (i j : Nat) (hi : i < es.size) (hj : j < es.size), es[i].born = es[j].born → i = j := fun i j hi hj e => by
    have hp := List.pairwise_iff_getElem.1 hn
    rcases Nat.lt_trichotomy i j with h | h | h
    · exact absurd (by rw [List.getElem_map, List.getElem_map]; exact e) (hp i j (by simpa using hi) (by simpa using hj) h)
    · exact h
    · exact absurd (by rw [List.getElem_map, List.getElem_map]; exact e.symm) (hp j i (by simpa using hj) (by simpa using hi) h)
  have hin : ∀ i (hi : i < es.size), (es[i].born ∈ seen.toList ↔ i ∈ is) := fun i hi => by
    rw [hsn]
    constructor
    · intro hm
      obtain ⟨j, hj, e⟩ := List.mem_map.1 hm
      have hj' : j < es.size := by rw [hlen]; exact lt j hj
      simp [hj'] at e
      rw [hborn i j hi hj' e.symm]; exact hj
    · intro hm
      exact List.mem_map.2 ⟨i, hm, by simp [hi]⟩
  rcases run_next_at (P := P) w 0 r b si c0 seen es cl hr hb hs h0 with ⟨hz, hrun⟩ | ⟨e, hm, w1, hw1, hrun⟩
  · left
    refine ⟨?_, fun _ => hrun⟩
    have hall : ∀ i, i < L.length → i ∈ is := fun i hi => by
      have hi' : i < es.size := by omega
      by_cases hm : i ∈ is
      · exact hm
      · exfalso
        have : es[i] ∈ (leftOf es seen).toList := by
          unfold leftOf
          simp only [Array.toList_filter, List.mem_filter]
          refine ⟨by simp, ?_⟩
          have hx := mt (hin i hi').1 hm
          simpa using hx
        have h2 : (leftOf es seen).toList.length = 0 := by simpa using hz
        rw [List.length_eq_zero_iff] at h2
        rw [h2] at this
        cases this
    have p1 : is.length ≤ L.length := by
      have : is ⊆ List.range L.length := fun i hi => List.mem_range.2 (lt i hi)
      simpa using nodup_len nd this
    have p2 : L.length ≤ is.length := by
      have : List.range L.length ⊆ is := fun i hi => hall i (List.mem_range.1 hi)
      simpa using nodup_len List.nodup_range this
    omega
  · right
    have hm' : e ∈ es.toList ∧ e.born ∉ seen.toList := by
      unfold leftOf at hm
      simp only [Array.toList_filter, List.mem_filter] at hm
      exact ⟨hm.1, by simpa using hm.2⟩
    obtain ⟨i, hi, ei⟩ := List.mem_iff_getElem.1 hm'.1
    have hi1 : i < es.size := by simpa using hi
    have hi2 : i < L.length := by omega
    have e0 : es[i] = e := by simpa using ei
    have hni : i ∉ is := by
      intro hx
      exact hm'.2 (by rw [← e0]; exact (hin i hi1).2 hx)
    have hkv : (e.key, e.val) = (ke L[i].1, ve L[i].2) := by
      have := congrArg (fun l => l[i]?) he
      simp [hi1, hi2, e0] at this
      simp [this]
    simp only [Prod.mk.injEq] at hkv
    have hr1 : w1.heap[r]? = some (.mapIter (some b) si seen c0) := by rcases hw1 with rfl | rfl <;> exact hr
    have hb1 : w1.heap[b]? = some (.map es cl) := by rcases hw1 with rfl | rfl <;> exact hb
    have hrb : b ≠ r := by intro e; rw [e, hr] at hb; cases hb
    have hr2 : (setBlock w1 r (.mapIter (some b) si (seen.push e.born) cl)).heap[r]? = some (.mapIter (some b) si (seen.push e.born) cl) := by
      simp only [setBlock]
      rw [Array.getElem?_setIfInBounds_self_of_lt (lt_of_block hr1)]
    have hb2 : (setBlock w1 r (.mapIter (some b) si (seen.push e.born) cl)).heap[b]? = some (.map es cl) := by
      simp only [setBlock]
      rw [Array.getElem?_setIfInBounds_ne (fun e => hrb e.symm)]
      exact hb1
    have hlt : is.length < L.length := by
      have hnd : (is ++ [i]).Nodup := by
        rw [List.nodup_append]
        refine ⟨nd, by simp, fun a ha c hc' => ?_⟩
        simp at hc'
        subst hc'
        intro e; subst e; exact hni ha
      have : is ++ [i] ⊆ List.range L.length := fun j hj => by
        simp at hj
        rcases hj with hj | rfl
        · exact List.mem_range.2 (lt j hj)
        · exact List.mem_range.2 hi2
      have := nodup_len hnd this
      simp at this
      omega
    refine ⟨i, hi2, setBlock w1 r (.mapIter (some b) si (seen.push e.born) cl), hni, hlt, fun ty => by rw [← hkv.1, ← hkv.2]; exact hrun, ⟨⟨es, cl, si, cl, seen.push e.born, hr2, hb2, ?_, he, hn, hs, h1, h1, hc⟩, ?_, ?_, hk⟩, ?_, ?_, ?_⟩
    · simp [hsn, hi1, e0]
    · rw [List.nodup_append]
      refine ⟨nd, by simp, fun a ha c hc' => ?_⟩
      simp at hc'
      subst hc'
      intro e; subst e; exact hni ha
    · intro j hj
      simp at hj
      rcases hj with hj | rfl
      · exact lt j hj
      · exact hi2
    · have := away_setBlock w1 r (.mapIter (some b) si (seen.push e.born) cl)
      rcases hw1 with rfl | rfl
      · exact this
      · exact ⟨this.os, this.tape, this.output, this.size, this.block⟩
    · rw [setBlock_size]
      rcases hw1 with rfl | rfl <;> rfl
    · rw [run_entry_at _ r b si seen es cl e hr2 hb2 hm'.1 hn, hkv.1, hkv.2]
/-- How many are left. -/
def rngLeft (w : World) (b r : Nat) : Nat := match w.heap[r]?, w.heap[b]? with
  | some (.mapIter _ _ seen _), some (.map es _) => es.size - seen.size
  | _, _ => 0
theorem RangeAt.left {r : Nat} {is : List Nat} (h : RangeAt w r b ke ve L is) : rngLeft w b r = L.length - is.length := by
  obtain ⟨⟨es, cl, si, c0, seen, hr, hb, hsn, he, _⟩, _⟩ := h
  have h1 : es.size = L.length := by
    have := congrArg List.length he
    simpa using this
  have h2 : seen.size = is.length := by
    have := congrArg List.length hsn
    simpa using this
  unfold rngLeft
  rw [hr, hb]
  simp only [h1, h2]
/-- What came out, in the order in which it came. -/
def outs (L : List (K × V)) (is : List Nat) : List (K × V) := is.filterMap fun i => L[i]?
theorem outs_snoc {is : List Nat} {i : Nat} (hi : i < L.length) : outs L (is ++ [i]) = outs L is ++ [L[i]] := by
  simp [outs, List.filterMap_append, hi]
theorem RangeAt.perm {r : Nat} {is : List Nat} (h : RangeAt w r b ke ve L is) (hl : is.length = L.length) : (outs L is).Perm L := by
  have hsub : is ⊆ List.range L.length := fun i hi => List.mem_range.2 (h.lt i hi)
  have hp : is.Perm (List.range L.length) := nodup_perm h.nd hsub (by simp [hl])
  have h1 := hp.filterMap (fun i => L[i]?)
  have h2 : (List.range L.length).filterMap (fun i => L[i]?) = L := by
    refine List.ext_getElem? fun j => ?_
    have h3 : ∀ n, n ≤ L.length → (List.range n).filterMap (fun i => L[i]?) = L.take n := by
      intro n
      induction n with
      | zero => simp
      | succ n ih =>
        intro hn
        rw [List.range_succ, List.filterMap_append, ih (by omega), List.take_succ_eq_append_getElem (by omega)]
        simp [show n < L.length by omega]
    rw [h3 L.length (Nat.le_refl _), List.take_length]
  rw [h2] at h1
  exact h1
end
theorem keyInt {P : Program} {kt : TypeId} {q : IntKind} (ht : P.underlying kt = some (.int q)) : KeyOK P kt (Value.int q) :=
  KeyOK.of_now ht (fun a b => by simp [Instr.sameNow]; rw [Bool.eq_iff_iff]; simp) (fun b k w => by
    rw [show (10000 : Nat) = 9999 + 1 from rfl]
    unfold Instr.checkKey
    rw [Sem.run_bind, run_underlying ht]
    rfl) (fun k => by simp [Instr.sameBits])
end Go.Proofs.Ytdgmmffedhikcaa
