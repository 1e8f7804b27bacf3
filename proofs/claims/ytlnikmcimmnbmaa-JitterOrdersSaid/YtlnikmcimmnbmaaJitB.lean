/- Package jitter: the first of a row of held things is taken off (slices.Delete). -/
import Derived.Test.YtlnikmcimmnbmaaJitA
import Derived.Shelf.RegionOpenPlain
import Derived.Deep.RegionLaw
import Derived.Laws.IdiomCopy
namespace Go.Proofs.Ytlnikmcimmnbmaa
set_option linter.unusedSimpArgs false
set_option linter.unusedVariables false
open Go.RowKit
set_option maxRecDepth 100000

/-- A stretch of a row, laid anew. -/
def putL (cur : List Value) (o : Nat) (vs : List Value) : List Value := cur.take o ++ vs ++ cur.drop (o + vs.length)
theorem putL_len {cur vs : List Value} {o : Nat} (h : o + vs.length ≤ cur.length) : (putL cur o vs).length = cur.length := by
  unfold putL
  rw [List.length_append, List.length_append, List.length_take, List.length_drop]; omega
theorem blk_setRow {w : World} {g e : Nat} {cur : Array Value} (h : w.heap[g]? = some (.cells cur e (0, 0))) (cs : Array Value) : (w.setRow g cs).heap[g]? = some (.cells cs e (0, 0)) := setRow_heap w g cur cs e (0, 0) h
theorem Away.setRow (w : World) (g : Nat) (cs : Array Value) : Away (fun k => k = g) w (w.setRow g cs) := by
  refine ⟨rfl, rfl, rfl, by simp [World.setRow], fun b hb hs => ?_⟩
  unfold World.setRow
  simp only
  rw [Array.getElem?_modify, if_neg (fun e => hs e.symm)]
section
variable {P : Program}
/-- copy at elements of n cells each: the block is laid anew. -/
theorem run_copy_row (w : World) (t ty e : TypeId) (i : TypeInfo) (ht : P.underlying t = some (.slice e)) (hi : P.info? e = some i) (g o dLen dCap : Nat) (cur : Array Value) (hg : w.heap[g]? = some (.cells cur e (0, 0)))
    (a : Addr) (sLen sCap : Nat) (cs : List Value) (hl : cs.length = Nat.min sLen dLen * i.size) (hsrc : ∀ j v, cs[j]? = some v → w.cell? (a.add j) = some v) (hfit : o + cs.length ≤ cur.size) (h1 : ∀ v ∈ cs, v.oneCell' = true) :
    (Builtin.copy_ #[t, t] ty #[.slice (some ⟨g, o, none⟩) dLen dCap, .slice (some a) sLen sCap]).run P w = .ok (goInt (Nat.min sLen dLen)) (w.setRow g (putL cur.toList o cs).toArray) := by
  have hf := run_firstCells_some (P := P) (w := w) i.size (Nat.min sLen dLen) a sLen sCap cs hl hsrc
  have hst := run_storeCells_at P g o e cs 0 cur w hg (by simpa using hfit) h1
  simp only [Nat.add_zero] at hst
  unfold putL
  simp [Builtin.copy_, run_underlying ht, Builtin.lenOf, sizeOf, typeInfo, hi, hf, hst]
/-- clear at elements of n cells each. -/
theorem run_clear_row (w : World) (t ty e : TypeId) (z : Value) (ht : P.underlying t = some (.slice e)) (hv : (zeroValue e).run P w = .ok z w) (g o n c : Nat) (hn : 0 < n) (cur : Array Value) (hg : w.heap[g]? = some (.cells cur e (0, 0)))
    (hfit : o + (Builtin.zeroCells z.cells n).toList.length ≤ cur.size) (h1 : ∀ v ∈ (Builtin.zeroCells z.cells n).toList, v.oneCell' = true) :
    (Builtin.clear_ #[t] ty #[.slice (some ⟨g, o, none⟩) n c]).run P w = .ok (.tuple #[]) (w.setRow g (putL cur.toList o (Builtin.zeroCells z.cells n).toList).toArray) := by
  have hst := run_storeCells_at P g o e (Builtin.zeroCells z.cells n).toList 0 cur w hg (by simpa using hfit) h1
  simp only [Nat.add_zero] at hst
  obtain ⟨m, rfl⟩ : ∃ m, n = m + 1 := ⟨n - 1, by omega⟩
  unfold putL
  simp [Builtin.clear_, run_underlying ht, hv, hst]
/-- append, run, as one step of a region that draws. -/
theorem step_append_run {ops : Array Oper} {o : Oper} {a : Act} {w : World} {K : Act → World → Prop} {Q : Exit → Act → World → Prop} {E : Prop}
    (hg : o.guard = none) (s x : Operand) (t t' : TypeId) (hop : o.op = Op.call { callee := Callee.builtin Builtin.append, args := #[s, x], argTypes := #[t, t'] })
    (v u : Value) (hs : a.eval s = v) (hx : a.eval x = u) {v' : Value} {w' : World} (hr : (Builtin.append_ #[t, t'] o.type #[v, u]).run P w = .ok v' w') (hK : K (a.put o.dst v') w') :
    if Region.wanted o (yielded ops a.tmps) = true then Oper.wp P o a w K Q else E := by
  have hw : Region.wanted o (yielded ops a.tmps) = true := by simp [Region.wanted, hg]
  rw [if_pos hw]
  unfold Oper.wp
  simp [execOp, hop, resolve, invoke, builtin, hs, hx, hr, Result.andThen]
  exact hK
end
theorem zero_held (w : World) : (zeroValue 193).run Try.prog w = .ok (.agg #[.int .i64 0, .int .i64 0, .int .i64 0]) w := by kernel_rfl
theorem zc_one : (Builtin.zeroCells (Value.agg #[.int .i64 0, .int .i64 0, .int .i64 0]).cells 1).toList = [.int .i64 0, .int .i64 0, .int .i64 0] := by kernel_rfl
set_option maxHeartbeats 4000000 in
theorem Delete_first (h : Hd) (T : List Hd) (v : Value) (base : Nat) (w : World) (row : HRow w base v (h :: T)) :
    Calls Try.prog 150 #[v, .int .i64 0, .int .i64 1] w fun e w' => ∃ v', e = .returned v' ∧ HRow w' base v' T ∧ Away (fun k => v.ownBlock = some k) w w' ∧ v'.ownBlock = v.ownBlock := by
  obtain ⟨hxs, ⟨_, h0⟩ | ⟨g, cap, cur, rfl, hb, hg, hnc, hcm, hcs, htake⟩⟩ := row
  · simp at h0
  rw [List.length_cons] at hxs hnc htake ⊢
  obtain ⟨i0, hi0, hz0, hz1, hz2⟩ := info_parts (P := Try.prog) (e := 193) (z := .agg #[.int .i64 0, .int .i64 0, .int .i64 0]) (size := 3) (bytes := 24) (by kernel_rfl)
  obtain ⟨n, hn⟩ : ∃ n, T.length = n := ⟨_, rfl⟩
  rw [hn] at hxs hnc htake ⊢
  have hT : (hdC T).length = n * 3 := by rw [hdC_len, hn]
  have hcl : cur.toList.length = cap * 3 := by simpa using hcs
  -- the cells that move
  obtain ⟨A, hA, hsrc⟩ : ∃ A : Addr, (if cap = 1 then some (⟨g, 0, none⟩ : Addr) else some ⟨g, 3, none⟩) = some A ∧ ∀ j u, (hdC T)[j]? = some u → w.drew.cell? (A.add j) = some u := by
    by_cases h1 : cap = 1
    · refine ⟨⟨g, 0, none⟩, by simp [h1], fun j u hu => ?_⟩
      have h0 : (hdC T).length = 0 := by rw [hT]; omega
      rw [List.length_eq_zero_iff.1 h0] at hu
      simp at hu
    · refine ⟨⟨g, 3, none⟩, by simp [h1], fun j u hu => ?_⟩
      have hj : j < n * 3 := by rw [← hT]; exact (List.getElem?_eq_some_iff.1 hu).1
      rw [Addr.add_lit]
      show w.cell? ⟨g, 3 + j, none⟩ = some u
      rw [cell_of_row w g _ cur _ (0, 0) hg]
      have e : (hdC (h :: T))[3 + j]? = some u := by
        rw [hdC_cons, List.getElem?_append_right (by simp [hd1])]
        simpa [hd1] using hu
      rw [← htake, List.getElem?_take, if_pos (by omega)] at e
      simpa using e
  have hr1 : ∀ ty, (Builtin.append_ #[187, 187] ty #[.slice (some ⟨g, 0, none⟩) 0 cap, .slice (some A) n (cap - 1)]).run Try.prog w.drew = .ok (.slice (some ⟨g, 0, none⟩) n cap) (w.drew.setRow g (hdC T ++ cur.toList.drop (n * 3)).toArray) := by
    intro ty
    have := run_append_room (P := Try.prog) (w := w.drew) 187 ty 193 i0 Try.underlying187 hi0 g 0 cap cur hg A n (cap - 1) (hdC T) (by rw [hz1]; exact hT) hsrc (hdC_one T) (by omega) (by rw [hT]; have : cur.size = cap * 3 := hcs; omega)
    rw [Nat.zero_add, Nat.zero_mul, Nat.zero_add, List.take_zero, List.nil_append, hT] at this
    exact this
  obtain ⟨W1, hW1⟩ : ∃ W1, W1 = w.drew.setRow g (hdC T ++ cur.toList.drop (n * 3)).toArray := ⟨_, rfl⟩
  have hg1 : W1.heap[g]? = some (.cells (hdC T ++ cur.toList.drop (n * 3)).toArray 193 (0, 0)) := by rw [hW1]; exact blk_setRow (w := w.drew) hg _
  have ha1 : Away (fun k => k = g) w W1 := by rw [hW1]; exact (show Away (fun k => k = g) w w.drew from Away.of_more (More.drewN w 1)).trans (Away.setRow w.drew g _)
  have hl1 : (hdC T ++ cur.toList.drop (n * 3)).length = cap * 3 := by rw [List.length_append, List.length_drop, hT, hcl]; omega
  have hr2 : ∀ ty c, (Builtin.clear_ #[187] ty #[.slice (some ⟨g, n * 3, none⟩) 1 c]).run Try.prog W1 = .ok (.tuple #[]) (W1.setRow g (putL (hdC T ++ cur.toList.drop (n * 3)) (n * 3) [.int .i64 0, .int .i64 0, .int .i64 0]).toArray) := by
    intro ty c
    have := run_clear_row (P := Try.prog) W1 187 ty 193 (.agg #[.int .i64 0, .int .i64 0, .int .i64 0]) Try.underlying187 (zero_held W1) g (n * 3) 1 c (by decide) _ hg1 (by rw [zc_one]; show n * 3 + 3 ≤ _; rw [List.size_toArray, hl1]; omega) (by rw [zc_one]; intro v hv; simp at hv; rw [hv]; rfl)
    rw [zc_one] at this
    simpa using this
  have HFIN : Hid (HRow (W1.setRow g (putL (hdC T ++ cur.toList.drop (n * 3)) (n * 3) [.int .i64 0, .int .i64 0, .int .i64 0]).toArray) base (.slice (some ⟨g, 0, none⟩) n cap) T) := Lib.hid (by
    refine ⟨by rw [hdC_len], Or.inr ⟨g, cap, _, by rw [hn], hb, blk_setRow hg1 _, by omega, hcm, ?_, ?_⟩⟩
    · rw [List.size_toArray, putL_len (by rw [hl1]; show n * 3 + 3 ≤ _; omega), hl1]
    · unfold putL
      rw [hn]
      simp only [List.append_assoc]
      rw [List.take_append_of_le_length (by rw [List.length_take, List.length_append, hT]; omega), List.take_take, Nat.min_self, List.take_append_of_le_length (by rw [hT]; exact Nat.le_refl _), List.take_of_length_le (by rw [hT]; exact Nat.le_refl _)])
  have HAW : Hid (Away (fun k => k = g) w (W1.setRow g (putL (hdC T ++ cur.toList.drop (n * 3)) (n * 3) [.int .i64 0, .int .i64 0, .int .i64 0]).toArray)) := Lib.hid (ha1.trans (Away.setRow W1 g _))
  rw [← hW1] at hr1
  have hR1 := Lib.hid hr1
  have hR2 := Lib.hid hr2
  have hc1 : 1 ≤ cap := by omega
  have hnc' : n + 1 ≤ cap := hnc
  have hc63 : (cap : Int) ≤ 9223372036854775807 := by unfold maxLen at hcm; omega
  generalize W1.setRow g (putL (hdC T ++ cur.toList.drop (n * 3)) (n * 3) [.int .i64 0, .int .i64 0, .int .i64 0]).toArray = W2 at *
  clear hr1 hr2 hsrc hxs htake hcs hcl hT hg hg1 ha1 hl1 hW1 hcm hi0 hz0 hz1 hz2 hnc
  have mixed : Try.prog.follows Departure.mixedOrders = true := by kernel_rfl
  have hn1 : (1 : Int) ≤ (n : Int) + 1 := by omega
  go_enter Try.func150, Try.ntmps150
  go_wp2_with fail
  go_region_law_o (refine step_append_run rfl (.tmp 22) (.tmp 25) 187 187 rfl _ _ (by simp [Act.eval, Act.put]) (by simp [Act.eval, Act.put]) (hR1.out _) ?_)
  have hr2 := hR2.out
  have hcn : ¬ cap = n := by omega
  go_wp2
  go_ret
  exact ⟨_, rfl, HFIN.out, HAW.out.mono fun k hk => by subst hk; rfl, rfl⟩
end Go.Proofs.Ytlnikmcimmnbmaa
