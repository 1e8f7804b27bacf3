/- Package jitter: a held thing is put into a row (slices.Insert). -/
import Derived.Test.YtlnikmcimmnbmaaJitB
import Derived.Maps.AppendAt
import Derived.Lib.AppendZeros
import Derived.Lib.AppendZerosOnto
import Derived.Lib.Overlaps
namespace Go.Proofs.Ytlnikmcimmnbmaa
set_option linter.unusedSimpArgs false
set_option linter.unusedVariables false
open Go.RowKit Go.Lib
set_option maxRecDepth 100000

theorem putL_app (A B vs : List Value) : putL (A ++ B) A.length vs = A ++ (vs ++ B.drop vs.length) := by
  unfold putL
  rw [List.take_left, List.append_assoc]
  congr 2
  rw [← List.drop_drop, List.drop_left]
theorem put_two {A Z D X V : List Value} (hz : Z.length = V.length) : putL (putL (A ++ (Z ++ D)) (A.length + Z.length) X) A.length V = A ++ (V ++ (X ++ D.drop X.length)) := by
  have h1 : putL (A ++ (Z ++ D)) (A.length + Z.length) X = A ++ (Z ++ (X ++ D.drop X.length)) := by
    have := putL_app (A ++ Z) D X
    rw [List.length_append] at this
    simpa only [List.append_assoc] using this
  rw [h1, putL_app, ← hz, List.drop_left]
theorem put_two' {A Z D X V : List Value} (hz : Z.length = V.length) : putL (putL (A ++ (Z ++ D)) A.length V) (A.length + V.length) X = A ++ (V ++ (X ++ D.drop X.length)) := by
  rw [putL_app, ← hz, List.drop_left]
  have := putL_app (A ++ V) D X
  rw [List.length_append] at this
  rw [hz]
  simpa only [List.append_assoc] using this
section
variable {P : Program}
theorem wpList_copy_runJ (w : World) {ops : Array Oper} {rest : List Oper} {o : Oper} {a : Act} {Q : Exit → Act → World → Prop} (hgd : o.guard = none) (d s : Operand) (t t' : TypeId)
    (ho : o.op = .call { callee := .builtin .copy, args := #[d, s], argTypes := #[t, t'] }) (v u : Value) (hd : a.eval d = v) (hs : a.eval s = u) {v' : Value} {w' : World}
    (hr : (Builtin.copy_ #[t, t'] o.type #[v, u]).run P w = .ok v' w') (h : wpList P ops Q rest (a.put o.dst v') w') : wpList P ops Q (o :: rest) a w := by
  refine wpList_plain hgd fun _ hK => ?_
  unfold Oper.wp
  simp [execOp, ho, resolve, invoke, builtin, hd, hs, hr, Result.andThen]
  exact hK _ _ h
theorem step_copy_runJ {ops : Array Oper} {o : Oper} {a : Act} {w : World} {K : Act → World → Prop} {Q : Exit → Act → World → Prop} {E : Prop}
    (hg : o.guard = none) (d x : Operand) (dT sT : TypeId) (hop : o.op = Op.call { callee := Callee.builtin Builtin.copy, args := #[d, x], argTypes := #[dT, sT] })
    (v u : Value) (hd : a.eval d = v) (hx : a.eval x = u) {v' : Value} {w' : World} (hr : (Builtin.copy_ #[dT, sT] o.type #[v, u]).run P w = .ok v' w') (hK : K (a.put o.dst v') w') :
    if Region.wanted o (yielded ops a.tmps) = true then Oper.wp P o a w K Q else E := by
  have hw : Region.wanted o (yielded ops a.tmps) = true := by simp [Region.wanted, hg]
  rw [if_pos hw]
  unfold Oper.wp
  simp [execOp, hop, resolve, invoke, builtin, hd, hx, hr, Result.andThen]
  exact hK
end
theorem hd1_len (h : Hd) : (hd1 h).length = 3 := rfl
/-- What an insertion is of. -/
structure InsOK (L : List Hd) (h : Hd) (v : Value) (base : Nat) (w : World) (vb : Nat) : Prop where
  row : HRow w base v L
  base : base ≤ w.heap.size
  len : L.length ≤ 1000
  one : w.heap[vb]? = some (.cells #[.int .i64 h.1, .int .i64 h.2.1, .int .i64 h.2.2] 193 (0, 0))
  ne : v.ownBlock ≠ some vb
/-- What it leaves. -/
def InsTo (L : List Hd) (i : Nat) (h : Hd) (v : Value) (base : Nat) (w : World) (e : Ending) (w' : World) : Prop :=
  ∃ v', e = .returned v' ∧ HRow w' base v' (L.take i ++ h :: L.drop i) ∧ Away (fun k => v.ownBlock = some k) w w' ∧ (v'.ownBlock = v.ownBlock ∨ v'.ownBlock = some w.heap.size)
theorem one_cells {w : World} {h : Hd} {vb : Nat} (hb : w.heap[vb]? = some (.cells #[.int .i64 h.1, .int .i64 h.2.1, .int .i64 h.2.2] 193 (0, 0))) : ∀ j u, (hd1 h)[j]? = some u → w.cell? ((⟨vb, 0, none⟩ : Addr).add j) = some u := by
  intro j u hu
  rw [Addr.add_lit, Nat.zero_add, cell_of_row w vb j _ _ (0, 0) hb]
  simpa [hd1] using hu
theorem hd1_one (h : Hd) : ∀ u ∈ hd1 h, u.oneCell' = true := by
  intro u hu
  simp [hd1] at hu
  rcases hu with rfl | rfl | rfl <;> rfl
set_option maxHeartbeats 2000000 in
theorem Insert_end (L : List Hd) (h : Hd) (v : Value) (base : Nat) (w : World) (vb : Nat) (ok : InsOK L h v base w vb) :
    Calls Try.prog 120 #[v, .int .i64 L.length, .slice (some ⟨vb, 0, none⟩) 1 1] w (InsTo L L.length h v base w) := by
  obtain ⟨row, hbase, hlen, hone, hne⟩ := ok
  obtain ⟨i0, hi0, hz0, hz1, hz2⟩ := info_parts (P := Try.prog) (e := 193) (z := .agg #[.int .i64 0, .int .i64 0, .int .i64 0]) (size := 3) (bytes := 24) (by kernel_rfl)
  obtain ⟨v', w', hrun, hrow, hgr, _, hown⟩ : ∃ v' w', (∀ ty, (Builtin.append_ #[187, 187] ty #[v, .slice (some ⟨vb, 0, none⟩) 1 1]).run Try.prog w = .ok v' w') ∧ w'.ownsRow base 193 3 v' (L.length + 1) (hdC L ++ hd1 h) ∧ w.grownBy w' v.ownBlock ∧ True ∧ (v'.ownBlock = v.ownBlock ∨ v'.ownBlock = some w.heap.size) := by
    obtain ⟨v', w', h1, h2, h3, _, h5⟩ := run_append_own_at (P := Try.prog) (w := w) base 187 0 193 i0 (.agg #[.int .i64 0, .int .i64 0, .int .i64 0]) 3 24 Try.underlying187 hi0 hz0 hz1 hz2 rfl (by decide) v L.length (hdC L) row ⟨vb, 0, none⟩ 1 1 (hd1 h) rfl (one_cells hone) (hd1_one h) (by unfold maxLen; omega) (by omega) hbase
    exact ⟨v', w', fun ty => h1, h2, h3, trivial, h5⟩
  have HFIN : Hid (InsTo L L.length h v base w (.returned v') w') := Lib.hid ⟨v', rfl, by
    unfold HRow
    rw [List.take_length, List.drop_length, hdC_app, List.length_append]
    exact hrow, ⟨hgr.os, hgr.tape, hgr.output, hgr.size, fun k hk hs => hgr.block k hk (fun e => hs e.symm)⟩, hown⟩
  have HRUN := Lib.hid hrun
  have hl63 : (L.length : Int) ≤ 1000 := by omega
  rcases row with ⟨_, ⟨rfl, h0⟩ | ⟨g, cap, cur, rfl, hb, hg, hnc, hcm, hcs, htake⟩⟩
  · rw [h0] at *
    clear hrun hrow hgr hown hone hi0 hz0 hz1 hz2 hne
    go_enter Try.func120, Try.ntmps120
    go_wp2_with (at_builtin; refine Lib.wpList_append_run _ rfl _ _ _ _ rfl _ _ rfl rfl _ _ (HRUN.out _) ?_)
    go_ret
    exact HFIN.out
  · have hnc' : L.length ≤ cap := hnc
    clear hrun hrow hgr hown hone hi0 hz0 hz1 hz2 hne hg hcs htake
    go_enter Try.func120, Try.ntmps120
    go_wp2_with (at_builtin; refine Lib.wpList_append_run _ rfl _ _ _ _ rfl _ _ rfl rfl _ _ (HRUN.out _) ?_)
    all_goals (go_ret; exact HFIN.out)
end Go.Proofs.Ytlnikmcimmnbmaa
