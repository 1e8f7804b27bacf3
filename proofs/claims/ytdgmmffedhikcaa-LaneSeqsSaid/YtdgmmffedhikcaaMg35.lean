/- Merged from my texts MapB. -/
import Derived.Test.YtdgmmffedhikcaaMg34
import Derived.Maps.OwnSet
/- Maps: taken off, counted, gone through; keys. -/
namespace Go.Proofs.Ytdgmmffedhikcaa
set_option linter.unusedSimpArgs false
set_option linter.unusedVariables false
open Go.RowKit Go.ChangeMaps
set_option linter.unusedSectionVars false

theorem nodup_len : ∀ {l m : List Nat}, l.Nodup → l ⊆ m → l.length ≤ m.length
  | [], _, _, _ => Nat.zero_le _
  | a :: t, m, h, hs => by
    simp only [List.nodup_cons] at h
    have ha : a ∈ m := hs List.mem_cons_self
    have ht : t ⊆ m.erase a := fun x hx => (List.mem_erase_of_ne (fun e => h.1 (by rw [← e]; exact hx))).2 (hs (List.mem_cons_of_mem _ hx))
    have h1 := nodup_len h.2 ht
    rw [List.length_erase_of_mem ha] at h1
    have := List.length_pos_of_mem ha
    simp only [List.length_cons]
    omega
theorem nodup_perm : ∀ {l m : List Nat}, l.Nodup → l ⊆ m → m.length ≤ l.length → l.Perm m
  | [], m, _, _, hl => by
    have : m = [] := List.eq_nil_of_length_eq_zero (by simpa using hl)
    rw [this]
  | a :: t, m, h, hs, hl => by
    simp only [List.nodup_cons] at h
    have ha : a ∈ m := hs List.mem_cons_self
    have ht : t ⊆ m.erase a := fun x hx => (List.mem_erase_of_ne (fun e => h.1 (by rw [← e]; exact hx))).2 (hs (List.mem_cons_of_mem _ hx))
    have h1 := nodup_perm h.2 ht (by rw [List.length_erase_of_mem ha]; simp at hl; omega)
    exact (h1.cons a).trans (List.perm_cons_erase ha).symm
section
variable {K V : Type} [DecidableEq K] {P : Program} {w : World} {b : Nat} {ke : K → Value} {ve : V → Value} {L : List (K × V)}
theorem MapAt.len {kt et t : TypeId} (h : MapAt w b ke ve L) (ht : P.underlying t = some (.map kt et)) (ty : TypeId) : (Builtin.len_ #[t] ty #[.map (some b)]).run P w = .ok (.int .i64 L.length) w := by
  obtain ⟨⟨es, cl, hb, he, _⟩, _⟩ := h
  have hl : es.size = L.length := by
    have := congrArg List.length he
    simpa using this
  unfold Builtin.len_
  simp [run_underlying ht, run_getObj_map hb, hl, goInt, go_sem]
theorem mdel_keys (k : K) : ∀ (L : List (K × V)), (L.map Prod.fst).Nodup → ((mdel L k).map Prod.fst).Nodup
  | [], h => h
  | (a, b) :: l, h => by
    simp only [List.map_cons, List.nodup_cons] at h
    unfold mdel
    split
    · exact h.2
    · simp only [List.map_cons, List.nodup_cons]
      refine ⟨fun hm => h.1 ?_, mdel_keys k l h.2⟩
      obtain ⟨x, hx, e⟩ := List.mem_map.1 hm
      rw [← e]
      refine List.mem_map_of_mem ?_
      clear h hm e
      induction l with
      | nil => exact hx
      | cons y l ih =>
        obtain ⟨c, d⟩ := y
        unfold mdel at hx
        split at hx
        · exact List.mem_cons_of_mem _ hx
        · rcases List.mem_cons.1 hx with rfl | hx
          · exact List.mem_cons_self
          · exact List.mem_cons_of_mem _ (ih hx)
theorem MapAt.drop {kt et t : TypeId} (h : MapAt w b ke ve L) (KO : KeyOK P kt ke) (ht : P.underlying t = some (.map kt et)) (k : K) (ty : TypeId) :
    ∃ w', (Builtin.delete_ #[t, kt] ty #[.map (some b), ke k]).run P w = .ok (.tuple #[]) w' ∧ MapAt w' b ke ve (mdel L k) ∧ Away (fun x => x = b) w w' ∧ w'.heap.size = w.heap.size := by
  have hkeys := mdel_keys k L h.keys
  obtain ⟨⟨es, cl, hb, he, hn, hc⟩, hk⟩ := h
  have hl := KO.look V ve k L es.toList w he
  unfold Builtin.delete_
  cases hq : lookI k L 0 with
  | none =>
    rw [hq] at hl
    simp only [Option.map_none] at hl
    obtain ⟨h1, h2, h3, h4⟩ := lookI_none hq
    refine ⟨setBlock w b (.map es cl), ?_, ⟨⟨es, cl, heap_setBlock_same hb _, by rw [h2]; exact he, hn, hc⟩, hkeys⟩, away_setBlock _ _ _, setBlock_size _ _ _⟩
    simp [run_underlying ht, run_getObj_map hb, KO.check, hl, run_setObj_map hb, go_sem]
  | some x =>
    obtain ⟨i, v⟩ := x
    rw [hq] at hl
    simp only [Option.map_some] at hl
    obtain ⟨h1, h2, h3, h4, h5⟩ := lookI_some hq
    simp only [Nat.sub_zero] at h2 h4 h5
    have hi : i < es.size := by
      have hl' := congrArg List.length he
      simp at hl'
      have := (List.getElem?_eq_some_iff.1 h2).1
      omega
    have er : (es.eraseIdxIfInBounds i).toList = es.toList.eraseIdx i := by simp [Array.eraseIdxIfInBounds, hi]
    refine ⟨setBlock w b (.map (es.eraseIdxIfInBounds i) cl), ?_, ⟨⟨_, _, heap_setBlock_same hb _, ?_, ?_, ?_⟩, hkeys⟩, away_setBlock _ _ _, setBlock_size _ _ _⟩
    · simp [run_underlying ht, run_getObj_map hb, KO.check, hl, run_setObj_map hb, go_sem]
    · rw [h4, er, map_eraseIdx, he, map_eraseIdx]
    · rw [er, map_eraseIdx]; exact List.Nodup.sublist (List.eraseIdx_sublist _ _) hn
    · intro e hm
      rw [er] at hm
      exact hc e (List.Sublist.mem hm (List.eraseIdx_sublist _ _))

/-- Block r goes through map b; out: what came out of it so far, by its places. -/
structure RangeAt (w : World) (r b : Nat) (ke : K → Value) (ve : V → Value) (L : List (K × V)) (is : List Nat) : Prop where
  ex : ∃ (es : Array MapEntry) (clock since c0 : Nat) (seen : Array Nat), w.heap[r]? = some (.mapIter (some b) since seen c0) ∧ w.heap[b]? = some (.map es clock) ∧ seen.toList = is.map (fun i => (es[i]?.map (·.born)).getD 0) ∧
    es.toList.map (fun e => (e.key, e.val)) = L.map (fun p => (ke p.1, ve p.2)) ∧ (es.toList.map (·.born)).Nodup ∧ (∀ e ∈ es.toList, e.born < since) ∧ since ≤ c0 ∧ since ≤ clock ∧ (∀ e ∈ es.toList, e.born < clock)
  nd : is.Nodup
  lt : ∀ i ∈ is, i < L.length
  keys : (L.map Prod.fst).Nodup
theorem RangeAt.map {r : Nat} {is : List Nat} (h : RangeAt w r b ke ve L is) : MapAt w b ke ve L := by
  obtain ⟨⟨es, cl, si, c0, seen, _, hb, _, he, hn, _, _, _, hc⟩, _, _, hk⟩ := h
  exact ⟨⟨es, cl, hb, he, hn, hc⟩, hk⟩
theorem RangeAt.away {r : Nat} {is : List Nat} {w' : World} {S : Nat → Prop} (h : RangeAt w r b ke ve L is) (m : Away S w w') (hr : ¬ S r) (hs : ¬ S b) : RangeAt w' r b ke ve L is := by
  obtain ⟨⟨es, cl, si, c0, seen, hr', hb, rest⟩, n, l, k⟩ := h
  exact ⟨⟨es, cl, si, c0, seen, m.blk hr' hr, m.blk hb hs, rest⟩, n, l, k⟩
theorem RangeAt.more {r : Nat} {is : List Nat} {w' : World} (h : RangeAt w r b ke ve L is) (m : More w w') : RangeAt w' r b ke ve L is := h.away (Away.of_more (S := fun _ => False) m) (fun x => x) (fun x => x)
theorem RangeAt.rlt {r : Nat} {is : List Nat} (h : RangeAt w r b ke ve L is) : r < w.heap.size := by
  obtain ⟨⟨es, cl, si, c0, seen, hr', _⟩, _⟩ := h
  exact lt_of_block hr'
/-- 'range m'. -/
theorem MapAt.range {kt et t : TypeId} (h : MapAt w b ke ve L) (ht : P.underlying t = some (.map kt et)) :
    ∃ w', (Instr.range t (.map (some b))).run P w = .ok (.pointer (some ⟨w.heap.size, 0, none⟩)) w' ∧ RangeAt w' w.heap.size b ke ve L [] ∧ More w w' ∧ w'.heap.size = w.heap.size + 1 := by
  obtain ⟨⟨es, cl, hb, he, hn, hc⟩, hk⟩ := h
  refine ⟨w.alloc (.mapIter (some b) cl #[] cl), ?_, ⟨⟨es, cl, cl, cl, #[], blk_new _ _, blk_alloc hb _, rfl, he, hn, hc, Nat.le_refl _, Nat.le_refl _, hc⟩, List.nodup_nil, by simp, hk⟩, More.alloc _ _, by simp⟩
  unfold Instr.range
  simp [run_underlying ht, run_getObj_map hb, go_sem]
/-- The step: it is over, or one that did not come out yet comes out. -/
theorem RangeAt.next {r : Nat} {is : List Nat} (h : RangeAt w r b ke ve L is) :
    (is.length = L.length ∧ ∀ ty, (Instr.next (.pointer (some ⟨r, 0, none⟩)) false ty).run P w = .ok (.tuple #[.bool false]) w) ∨
    ∃ (i : Nat) (hi : i < L.length) (w' : World), i ∉ is ∧ is.length < L.length ∧ (∀ ty, (Instr.next (.pointer (some ⟨r, 0, none⟩)) false ty).run P w = .ok (.tuple #[.bool true, ke L[i].1, ve L[i].2]) w') ∧
      RangeAt w' r b ke ve L (is ++ [i]) ∧ Away (fun x => x = r) w w' ∧ w'.heap.size = w.heap.size ∧ (Instr.entry (.pointer (some ⟨r, 0, none⟩))).run P w' = .ok (.tuple #[ke L[i].1, ve L[i].2]) w' := by
  obtain ⟨⟨es, cl, si, c0, seen, hr, hb, hsn, he, hn, hs, h0, h1, hc⟩, nd, lt, hk⟩ := h
  have hlen : es.size = L.length := by
    have := congrArg List.length he
    simpa using this
  have hborn : ∀ (i j : Nat) (hi : i < es.size) (hj : j < es.size), es[i].born = es[j].born → i = j := fun i j hi hj e => by
    have hp := List.pairwise_iff_getElem.1 hn
    rcases Nat.lt_trichotomy i j with h | h | h
    · exact absurd (by rw [List.getElem_map, List.getElem_map]; exact e) (hp i j (by simpa using hi) (by simpa using hj) h)
    · exact h
    · exact absurd (by rw [List.getElem_map, List.getElem_map]; exact e.symm) (hp j i (by simpa using hj) (by simpa using hi) h)
  have hin : ∀ i (hi : i < es.size), (es[i].born ∈ seen.toList ↔ i ∈ is) := fun i hi => by
    rw [hsn]
    constructor
    · intro hm
      obtain ⟨j, hj, e⟩ := List.mem_map.1 hm
      have hj' : j < es.size := by rw [hlen]; exact lt j hj
      simp [hj'] at e
      rw [hborn i j hi hj' e.symm]; exact hj
    · intro hm
      exact List.mem_map.2 ⟨i, hm, by simp [hi]⟩
  rcases run_next_at (P := P) w 0 r b si c0 seen es cl hr hb hs h0 with ⟨hz, hrun⟩ | ⟨e, hm, w1, hw1, hrun⟩
  · left
    refine ⟨?_, fun _ => hrun⟩
    have hall : ∀ i, i < L.length → i ∈ is := fun i hi => by
      have hi' : i < es.size := by omega
      by_cases hm : i ∈ is
      · exact hm
      · exfalso
        have : es[i] ∈ (leftOf es seen).toList := by
          unfold leftOf
          simp only [Array.toList_filter, List.mem_filter]
          refine ⟨by simp, ?_⟩
          have hx := mt (hin i hi').1 hm
          simpa using hx
        have h2 : (leftOf es seen).toList.length = 0 := by simpa using hz
        rw [List.length_eq_zero_iff] at h2
        rw [h2] at this
        cases this
    have p1 : is.length ≤ L.length := by
      have : is ⊆ List.range L.length := fun i hi => List.mem_range.2 (lt i hi)
      simpa using nodup_len nd this
    have p2 : L.length ≤ is.length := by
      have : List.range L.length ⊆ is := fun i hi => hall i (List.mem_range.1 hi)
      simpa using nodup_len List.nodup_range this
    omega
  · right
    have hm' : e ∈ es.toList ∧ e.born ∉ seen.toList := by
      unfold leftOf at hm
      simp only [Array.toList_filter, List.mem_filter] at hm
      exact ⟨hm.1, by simpa using hm.2⟩
    obtain ⟨i, hi, ei⟩ := List.mem_iff_getElem.1 hm'.1
    have hi1 : i < es.size := by simpa using hi
    have hi2 : i < L.length := by omega
    have e0 : es[i] = e := by simpa using ei
    have hni : i ∉ is := by
      intro hx
      exact hm'.2 (by rw [← e0]; exact (hin i hi1).2 hx)
    have hkv : (e.key, e.val) = (ke L[i].1, ve L[i].2) := by
      have := congrArg (fun l => l[i]?) he
      simp [hi1, hi2, e0] at this
      simp [this]
    simp only [Prod.mk.injEq] at hkv
    have hr1 : w1.heap[r]? = some (.mapIter (some b) si seen c0) := by rcases hw1 with rfl | rfl <;> exact hr
    have hb1 : w1.heap[b]? = some (.map es cl) := by rcases hw1 with rfl | rfl <;> exact hb
    have hrb : b ≠ r := by intro e; rw [e, hr] at hb; cases hb
    have hr2 : (setBlock w1 r (.mapIter (some b) si (seen.push e.born) cl)).heap[r]? = some (.mapIter (some b) si (seen.push e.born) cl) := by
      simp only [setBlock]
      rw [Array.getElem?_setIfInBounds_self_of_lt (lt_of_block hr1)]
    have hb2 : (setBlock w1 r (.mapIter (some b) si (seen.push e.born) cl)).heap[b]? = some (.map es cl) := by
      simp only [setBlock]
      rw [Array.getElem?_setIfInBounds_ne (fun e => hrb e.symm)]
      exact hb1
    have hlt : is.length < L.length := by
      have hnd : (is ++ [i]).Nodup := by
        rw [List.nodup_append]
        refine ⟨nd, by simp, fun a ha c hc' => ?_⟩
        simp at hc'
        subst hc'
        intro e; subst e; exact hni ha
      have : is ++ [i] ⊆ List.range L.length := fun j hj => by
        simp at hj
        rcases hj with hj | rfl
        · exact List.mem_range.2 (lt j hj)
        · exact List.mem_range.2 hi2
      have := nodup_len hnd this
      simp at this
      omega
    refine ⟨i, hi2, setBlock w1 r (.mapIter (some b) si (seen.push e.born) cl), hni, hlt, fun ty => by rw [← hkv.1, ← hkv.2]; exact hrun, ⟨⟨es, cl, si, cl, seen.push e.born, hr2, hb2, ?_, he, hn, hs, h1, h1, hc⟩, ?_, ?_, hk⟩, ?_, ?_, ?_⟩
    · simp [hsn, hi1, e0]
    · rw [List.nodup_append]
      refine ⟨nd, by simp, fun a ha c hc' => ?_⟩
      simp at hc'
      subst hc'
      intro e; subst e; exact hni ha
    · intro j hj
      simp at hj
      rcases hj with hj | rfl
      · exact lt j hj
      · exact hi2
    · have := away_setBlock w1 r (.mapIter (some b) si (seen.push e.born) cl)
      rcases hw1 with rfl | rfl
      · exact this
      · exact ⟨this.os, this.tape, this.output, this.size, this.block⟩
    · rw [setBlock_size]
      rcases hw1 with rfl | rfl <;> rfl
    · rw [run_entry_at _ r b si seen es cl e hr2 hb2 hm'.1 hn, hkv.1, hkv.2]
/-- How many are left. -/
def rngLeft (w : World) (b r : Nat) : Nat := match w.heap[r]?, w.heap[b]? with
  | some (.mapIter _ _ seen _), some (.map es _) => es.size - seen.size
  | _, _ => 0
theorem RangeAt.left {r : Nat} {is : List Nat} (h : RangeAt w r b ke ve L is) : rngLeft w b r = L.length - is.length := by
  obtain ⟨⟨es, cl, si, c0, seen, hr, hb, hsn, he, _⟩, _⟩ := h
  have h1 : es.size = L.length := by
    have := congrArg List.length he
    simpa using this
  have h2 : seen.size = is.length := by
    have := congrArg List.length hsn
    simpa using this
  unfold rngLeft
  rw [hr, hb]
  simp only [h1, h2]
/-- What came out, in the order in which it came. -/
def outs (L : List (K × V)) (is : List Nat) : List (K × V) := is.filterMap fun i => L[i]?
theorem outs_snoc {is : List Nat} {i : Nat} (hi : i < L.length) : outs L (is ++ [i]) = outs L is ++ [L[i]] := by
  simp [outs, List.filterMap_append, hi]
theorem RangeAt.perm {r : Nat} {is : List Nat} (h : RangeAt w r b ke ve L is) (hl : is.length = L.length) : (outs L is).Perm L := by
  have hsub : is ⊆ List.range L.length := fun i hi => List.mem_range.2 (h.lt i hi)
  have hp : is.Perm (List.range L.length) := nodup_perm h.nd hsub (by simp [hl])
  have h1 := hp.filterMap (fun i => L[i]?)
  have h2 : (List.range L.length).filterMap (fun i => L[i]?) = L := by
    refine List.ext_getElem? fun j => ?_
    have h3 : ∀ n, n ≤ L.length → (List.range n).filterMap (fun i => L[i]?) = L.take n := by
      intro n
      induction n with
      | zero => simp
      | succ n ih =>
        intro hn
        rw [List.range_succ, List.filterMap_append, ih (by omega), List.take_succ_eq_append_getElem (by omega)]
        simp [show n < L.length by omega]
    rw [h3 L.length (Nat.le_refl _), List.take_length]
  rw [h2] at h1
  exact h1
end
theorem keyInt {P : Program} {kt : TypeId} {q : IntKind} (ht : P.underlying kt = some (.int q)) : KeyOK P kt (Value.int q) :=
  KeyOK.of_now ht (fun a b => by simp [Instr.sameNow]; rw [Bool.eq_iff_iff]; simp) (fun b k w => by
    rw [show (10000 : Nat) = 9999 + 1 from rfl]
    unfold Instr.checkKey
    rw [Sem.run_bind, run_underlying ht]
    rfl) (fun k => by simp [Instr.sameBits])
end Go.Proofs.Ytdgmmffedhikcaa
