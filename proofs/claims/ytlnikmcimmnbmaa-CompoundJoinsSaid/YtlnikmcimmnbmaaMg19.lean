/- Merged from my texts SliceC, RdR. -/
import Derived.Test.YtlnikmcimmnbmaaMg3
import Derived.Laws.AppendOwnNone
import Derived.Test.YtlnikmcimmnbmaaMg2
import Derived.Test.YtlnikmcimmnbmaaMg7
import Derived.IntWalk
/- append in a region that draws its order: rows of integers. -/
namespace Go.Proofs.Ytlnikmcimmnbmaa
set_option linter.unusedSimpArgs false
set_option linter.unusedVariables false
open Go.RowKit

theorem loud_append_at {P : Program} {w : World} {o : Oper} {a : Act} {C : World → Prop} {K : Act → World → Prop} (s x : Operand) (t : TypeId)
    (ho : o.op = .call { callee := .builtin .append, args := #[s, x], argTypes := #[t, t] })
    (base : Nat) (e : TypeId) (i : TypeInfo) (z : Value) (bytes : Nat) (ht : P.underlying t = some (.slice e)) (hi : P.info? e = some i) (hz : i.zero = some z)
    (hsize : i.size = 1) (hby : i.bytes = bytes) (hzs : z.cells.size = 1)
    (v : Value) (k : IntKind) (l : List Int) (hs : a.eval s = v) (hown : w.ownsRow base e 1 v l.length (l.map (Value.int k)))
    (ad : Addr) (cap : Nat) (lx : List Int) (hx : a.eval x = .slice (some ad) lx.length cap) (hl : SlI k w (.slice (some ad) lx.length cap) lx)
    (hbytes : (l.length + lx.length) * bytes ≤ 140737488355328) (hby1 : 1 ≤ bytes) (hbase : base ≤ w.heap.size)
    (h : ∀ v' w', w'.ownsRow base e 1 v' (l ++ lx).length ((l ++ lx).map (Value.int k)) → w.grownBy w' v.ownBlock → (v'.ownBlock = v.ownBlock ∨ v'.ownBlock = some w.heap.size) → C w' ∧ K (a.put o.dst v') w') : loud P C o a w K := by
  have h63 : l.length + lx.length ≤ maxLen := by
    have := Nat.le_mul_of_pos_right (l.length + lx.length) (show 0 < bytes by omega)
    unfold maxLen; omega
  obtain ⟨oa', cap', e', hl1, hl2, hl3, hl4, hl5⟩ := hl
  cases e'
  obtain ⟨v', w', hr, h2, h3, _, h5⟩ := run_append_own_at (P := P) w base t o.type e i z 1 bytes ht hi hz hsize hby hzs (by decide) v l.length (l.map (Value.int k)) hown ad lx.length cap (lx.map (Value.int k)) (by simp) (by
    intro j u hj
    rw [List.getElem?_map] at hj
    obtain ⟨y, hy, rfl⟩ := Option.map_eq_some_iff.1 hj
    obtain ⟨hlt, hy'⟩ := List.getElem?_eq_some_iff.1 hy
    obtain ⟨b, off, e1, _, hc⟩ := hl2 j hlt
    simp only [Option.some.injEq] at e1
    subst e1
    have ea : (⟨b, off, none⟩ : Addr).add j = ⟨b, off + j, none⟩ := by
      unfold Addr.add; split
      · rename_i h0; subst h0; rfl
      · rfl
    rw [ea, hc, List.getD_eq_getElem?_getD, hy]; rfl) (by
    intro u hu
    obtain ⟨y, _, rfl⟩ := List.mem_map.1 hu
    rfl) h63 hbytes hbase
  unfold loud execOp
  simp only [ho, resolve, invoke, builtin, Sem.run_bind, Sem.run_pure, Result.andThen_ok, List.map_toArray, List.map_cons, List.map_nil, hs, hx, hr]
  exact h v' w' (by simpa using h2) h3 h5
/-- The same, whatever the source. -/
theorem loud_append_sl {P : Program} {w : World} {o : Oper} {a : Act} {C : World → Prop} {K : Act → World → Prop} (s x : Operand) (t : TypeId)
    (ho : o.op = .call { callee := .builtin .append, args := #[s, x], argTypes := #[t, t] })
    (base : Nat) (e : TypeId) (i : TypeInfo) (z : Value) (bytes : Nat) (ht : P.underlying t = some (.slice e)) (hi : P.info? e = some i) (hz : i.zero = some z)
    (hsize : i.size = 1) (hby : i.bytes = bytes) (hzs : z.cells.size = 1)
    (v : Value) (k : IntKind) (l : List Int) (hs : a.eval s = v) (hown : w.ownsRow base e 1 v l.length (l.map (Value.int k)))
    (vx : Value) (lx : List Int) (hx : a.eval x = vx) (hl : SlI k w vx lx)
    (hbytes : (l.length + lx.length) * bytes ≤ 140737488355328) (hby1 : 1 ≤ bytes) (hbase : base ≤ w.heap.size)
    (h : ∀ v' w', w'.ownsRow base e 1 v' (l ++ lx).length ((l ++ lx).map (Value.int k)) → w.grownBy w' v.ownBlock → (v'.ownBlock = v.ownBlock ∨ v'.ownBlock = some w.heap.size) → C w' ∧ K (a.put o.dst v') w') : loud P C o a w K := by
  have hl0 := hl
  obtain ⟨oa, cap, rfl, hl1, hl2, hl3, hl4, hl5⟩ := hl
  cases oa with
  | some ad => exact loud_append_at s x t ho base e i z bytes ht hi hz hsize hby hzs v k l hs hown ad cap lx hx hl0 hbytes hby1 hbase h
  | none =>
    have h0 : cap = 0 := hl5 rfl
    subst h0
    have hn : lx = [] := List.eq_nil_of_length_eq_zero (by omega)
    subst hn
    have hrun := run_append_owned_none (P := P) (w := w) base t o.type e i 1 ht hi v l.length (l.map (Value.int k)) hown
    have hh := h v w (by simpa using hown) ⟨rfl, rfl, rfl, Nat.le_refl _, fun _ _ _ => rfl⟩ (Or.inl rfl)
    simp only [List.length_nil] at hx
    unfold loud execOp
    simp only [ho, resolve, invoke, builtin, Sem.run_bind, Sem.run_pure, Result.andThen_ok, List.map_toArray, List.map_cons, List.map_nil, hs, hx, hrun]
    exact hh
end Go.Proofs.Ytlnikmcimmnbmaa
/- The document's reader: contracts. -/
namespace Go.Proofs.Ytlnikmcimmnbmaa
set_option linter.unusedSimpArgs false
set_option linter.unusedVariables false
open Go.RowKit
set_option maxRecDepth 100000

/-- The document's reader: what is left, what went wrong. -/
structure RRd (w : World) (R : Nat) (v : Value) (L : List Int) (s : RdS) : Prop where
  blk : ∃ (a : Nat), w.heap[R]? = some (.cells #[v, .int .i64 (a : Int), .int .i64 s.2] 155 (0, 0)) ∧ SlI .u8 w v L ∧ L.length ≤ 1000000 ∧ Byt L ∧ a ≤ L.length ∧ s.1 = if s.2 = 0 then L.drop a else []
theorem RRd.byt {v0 : Value} {L0 : List Int} {w : World} {R : Nat} {s : RdS} (h : RRd w R v0 L0 s) : Byt s.1 := by
  obtain ⟨a, _, _, _, hb, _, e⟩ := h.blk
  rw [e]
  split
  · exact hb.drop _
  · exact byt_nil
theorem RRd.small {v0 : Value} {L0 : List Int} {w : World} {R : Nat} {s : RdS} (h : RRd w R v0 L0 s) : s.1.length ≤ 1000000 := by
  obtain ⟨a, _, _, hl, hb, _, e⟩ := h.blk
  rw [e]
  split
  · rw [List.length_drop]; omega
  · simp
theorem RRd.shut {v0 : Value} {L0 : List Int} {w : World} {R : Nat} {s : RdS} (h : RRd w R v0 L0 s) : Shut s := by
  obtain ⟨a, _, _, hl, hb, _, e⟩ := h.blk
  intro hn
  rw [e, if_neg hn]
theorem RRd.lt {v0 : Value} {L0 : List Int} {w : World} {R : Nat} {s : RdS} (h : RRd w R v0 L0 s) : R < w.heap.size := by
  obtain ⟨a, hb, _⟩ := h.blk
  exact blk_lt hb
theorem RRd.more {v0 : Value} {L0 : List Int} {w w' : World} {R : Nat} {s : RdS} (h : RRd w R v0 L0 s) (m : More w w') : RRd w' R v0 L0 s := by
  obtain ⟨a, h1, h2, h3⟩ := h.blk
  exact ⟨a, blk_more m h1, h2.keep m, h3⟩
theorem RRd.away {S : Nat → Prop} {v0 : Value} {L0 : List Int} {w w' : World} {R : Nat} {s : RdS} (h : RRd w R v0 L0 s) (m : Away S w w') (hR : ¬ S R) (hs : ∀ b, S b → ∀ o x, w.cell? ⟨b, o, none⟩ ≠ some (.int .u8 x)) : RRd w' R v0 L0 s := by
  obtain ⟨a, h1, h2, h3⟩ := h.blk
  exact ⟨a, m.blk h1 hR, h2.away m hs, h3⟩
theorem RRd.on {v0 : Value} {L0 : List Int} {w w' : World} {R : Nat} {s : RdS} (h : RRd w R v0 L0 s) (hb : w'.heap[R]? = w.heap[R]?) (hs : SlI .u8 w' v0 L0) : RRd w' R v0 L0 s := by
  obtain ⟨a, h1, h2, h3⟩ := h.blk
  exact ⟨a, by rw [hb]; exact h1, hs, h3⟩
theorem rrd_cell {w : World} {R : Nat} {v : Value} {a e : Int} (h : w.heap[R]? = some (.cells #[v, .int .i64 a, .int .i64 e] 155 (0, 0))) (hv : ∃ oa n c, v = .slice oa n c) (o : Nat) (x : Int) : w.cell? ⟨R, o, none⟩ ≠ some (.int .u8 x) := by
  obtain ⟨oa, n, c, rfl⟩ := hv
  rw [cell_of_row w R o _ _ _ h]
  match o with
  | 0 => simp
  | 1 => simp
  | 2 => simp
  | o + 3 => simp
theorem tkB_of_nil (n : Int) : tkB [] n = [] := by unfold tkB; split <;> simp
theorem tkS_shut {s : RdS} (h : Shut s) (he : ¬ s.2 = 0) (n : Int) : tkS s n = s ∧ tkB s.1 n = [] := by
  obtain ⟨l, e⟩ := s
  have : l = [] := h he
  subst this
  refine ⟨?_, tkB_of_nil n⟩
  unfold tkS tkL tkE
  rw [if_neg (fun x => he x.2)]
  simp
/-- A part of a slice. -/
theorem sl_part {w : World} {v : Value} {L : List Int} (h : SlI .u8 w v L) (a n : Nat) (hn : a + n ≤ L.length) :
    ∃ v', (∀ w', (Instr.sliceAt 28 v (some (.int .i64 (a : Int))) (some (.int .i64 ((a : Int) + (n : Int)))) none).run Try.prog w' = .ok v' w') ∧ SlI .u8 w v' ((L.drop a).take n) ∧ ∃ oa c, v' = .slice oa n c := by
  obtain ⟨oa, cap, rfl, h1, h2, h3, h4, h5⟩ := h
  have g1 : (0 : Int) ≤ (a : Int) := by omega
  have g2 : (a : Int) ≤ (a : Int) + (n : Int) := by omega
  have g3 : (a : Int) + (n : Int) ≤ (cap : Int) := by omega
  have g4 : (0 : Int) ≤ (a : Int) + (n : Int) := by omega
  have g5 : ((a : Int) + (n : Int)).toNat - a = n := by omega
  have S0 : SlI .u8 w (.slice oa L.length cap) L := ⟨oa, cap, rfl, h1, h2, h3, h4, h5⟩
  by_cases hc : cap = a
  · subst hc
    refine ⟨.slice oa n 0, fun w' => ?_, ?_, ⟨_, _, rfl⟩⟩
    · simp [go_sem, Try.underlying28, g1, g2, g3, g4, g5]
    · have e0 : n = 0 := by omega
      subst e0
      rw [List.take_zero]
      exact ⟨oa, 0, rfl, by simp, fun i hi => by simp at hi, Nat.le_refl _, Nat.zero_le _, fun _ => rfl⟩
  · refine ⟨.slice (oa.map (·.add a)) n (cap - a), fun w' => ?_, ?_, ⟨_, _, rfl⟩⟩
    · simp [go_sem, Try.underlying28, g1, g2, g3, g4, g5, hc]
    · have hl : ((L.drop a).take n).length = n := by rw [List.length_take, List.length_drop]; omega
      refine ⟨oa.map (·.add a), cap - a, by rw [hl], by rw [hl]; omega, fun i hi => ?_, by rw [hl]; omega, Nat.le_trans (Nat.sub_le _ _) h4, fun h => ?_⟩
      · rw [hl] at hi
        obtain ⟨b, off, e, hb, hcl⟩ := h2 (a + i) (by omega)
        have ea : (⟨b, off, none⟩ : Addr).add a = ⟨b, off + a, none⟩ := by
          unfold Addr.add; split
          · rename_i h0; subst h0; rfl
          · rfl
        refine ⟨b, off + a, by rw [e, Option.map_some, ea], hb, ?_⟩
        rw [Nat.add_assoc, hcl, List.getD_eq_getElem?_getD, List.getD_eq_getElem?_getD, List.getElem?_take, if_pos hi, List.getElem?_drop]
      · cases oa with
        | none => have := h5 rfl; omega
        | some a => simp at h
set_option maxHeartbeats 2000000 in
theorem RRaw_bad {v0 : Value} {L0 : List Int} {w : World} {R : Nat} {s : RdS} (h : RRd w R v0 L0 s) (he : ¬ s.2 = 0) (n : Int) :
    Calls Try.prog 94 #[.pointer (some ⟨R, 0, none⟩), .int .i64 n] w fun e w' => e = .returned (.slice none 0 0) ∧ w = w' := by
  obtain ⟨a, h1, _⟩ := h.blk
  have c2 := blk_cell h1 2 (v := .int .i64 s.2) rfl
  have hq : (s.2 != 0) = true := by simpa using he
  clear h1 h he
  go_enter Try.func94, Try.ntmps94
  go_wp2
  go_ret
  exact ⟨rfl, rfl⟩
set_option maxHeartbeats 2000000 in
theorem RRaw_short {v0 : Value} {L0 : List Int} {w : World} {R : Nat} {L : List Int} (h : RRd w R v0 L0 (L, 0)) (n : Int) (hn : (L.length : Int) < n) :
    Calls Try.prog 94 #[.pointer (some ⟨R, 0, none⟩), .int .i64 n] w fun e w' => e = .returned (.slice none 0 0) ∧ RRd w' R v0 L0 ([], 3) ∧ Away (fun b => b = R) w w' := by
  obtain ⟨a, h1, h2, h3, h4, h5, h6⟩ := h.blk
  simp only [if_true] at h1 h6
  subst h6
  have H1 := Lib.hid h1
  have H2 := Lib.hid h2
  have H4 := Lib.hid h4
  obtain ⟨oa, cap, rfl, _⟩ := h2
  have c0 := fun k => blk_cell (blk_drewN h1 k) 0 (v := .slice oa L0.length cap) rfl
  have c1 := fun k => blk_cell (blk_drewN h1 k) 1 (v := .int .i64 (a : Int)) rfl
  have c2 := blk_cell h1 2 (v := .int .i64 0) rfl
  have f2 := fun k => blk_free (blk_drewN h1 k) 2
  have d2 := fun k => blk_cell (blk_drewN h1 k) 2 (v := .int .i64 0) rfl
  rw [List.length_drop] at hn
  have hgt : (L0.length : Int) - (a : Int) < n := by omega
  have hx : ∀ k, RRd ((w.drewN k).setCell ⟨R, 2, none⟩ (.int .i64 3)) R (.slice oa L0.length cap) L0 ([], 3) ∧ Away (fun b => b = R) w ((w.drewN k).setCell ⟨R, 2, none⟩ (.int .i64 3)) := fun k => by
    have A0 : Away (fun b => b = R) (w.drewN k) ((w.drewN k).setCell ⟨R, 2, none⟩ (.int .i64 3)) := (Away.refl (fun b => b = R) _).set (p := ⟨R, 2, none⟩) rfl _
    refine ⟨⟨a, blk_set (blk_drewN H1.out k) 2 _, (H2.out.keep (More.drewN _ k)).away A0 (by rintro b rfl; exact fun o x => rrd_cell H1.out ⟨_, _, _, rfl⟩ o x), h3, H4.out, h5, by simp⟩, (Away.of_more (More.drewN w k)).trans A0⟩
  have HX := Lib.hid hx
  clear h1 h4 hx h hn
  go_enter Try.func94, Try.ntmps94
  go_wp2
  go_quiet (fail)
  go_wp2
  go_ret
  exact ⟨rfl, HX.out _⟩
set_option maxHeartbeats 4000000 in
theorem RRaw_ok {v0 : Value} {L0 : List Int} {w : World} {R : Nat} {L : List Int} (h : RRd w R v0 L0 (L, 0)) (n : Nat) (hn : n ≤ L.length) :
    Calls Try.prog 94 #[.pointer (some ⟨R, 0, none⟩), .int .i64 (n : Int)] w fun e w' => ∃ v', e = .returned v' ∧ w'.ownsRow w.heap.size 5 1 v' (L.take n).length ((L.take n).map (Value.int .u8)) ∧ RRd w' R v0 L0 (L.drop n, 0) ∧ Away (fun b => b = R) w w' := by
  obtain ⟨i0, hi, hz0, hz1, hz2⟩ := info_parts Try.info_u8
  obtain ⟨a, h1, h2, h3, h4, h5, h6⟩ := h.blk
  simp only [if_true] at h1 h6
  subst h6
  rw [List.length_drop] at hn
  obtain ⟨vp, hp, sp, op, cp, ep⟩ := sl_part h2 a n (by omega)
  have H1 := Lib.hid h1
  have H2 := Lib.hid h2
  have H4 := Lib.hid h4
  have SP := Lib.hid sp
  obtain ⟨oa, cap, rfl, _⟩ := h2
  subst ep
  have c0 := fun k => blk_cell (blk_drewN h1 k) 0 (v := .slice oa L0.length cap) rfl
  have c1 := fun k => blk_cell (blk_drewN h1 k) 1 (v := .int .i64 (a : Int)) rfl
  have c2 := blk_cell h1 2 (v := .int .i64 0) rfl
  have hlt := blk_lt h1
  have hgt : ¬ (L0.length : Int) - (a : Int) < (n : Int) := by omega
  clear h1 h4 h sp
  go_enter Try.func94, Try.ntmps94
  go_wp2
  go_quiet (fail)
  go_wp2_with fail
  have C0 : ∀ x : Later (w.drewN nq), x.w'.cell? ⟨R, 0, none⟩ = some (.slice oa L0.length cap) := fun x => blk_cell (blk_more x.h H1.out) 0 rfl
  have C1 : ∀ x : Later (w.drewN nq), x.w'.cell? ⟨R, 1, none⟩ = some (.int .i64 (a : Int)) := fun x => blk_cell (blk_more x.h H1.out) 1 rfl
  have hs1 : (a : Int) + (n : Int) ≤ 1000000 := by omega
  have hs2 : 0 ≤ (a : Int) + (n : Int) := by omega
  have hs3 : IntKind.i64.wrap ((a : Int) + (n : Int)) = (a : Int) + (n : Int) := IntWalk.i64_in _ (by omega)
  refine wp_region_num (w.drewN nq) 18 [(1, false), (2, false), (3, false), (4, false), (5, false), (6, false), (7, false), (8, false), (9, false), (10, false), (11, false), (12, false), (13, false), (14, false), (15, false), (0, true), (16, true), (17, false)] (by kernel_rfl) (by kernel_rfl) ?_
  iterate 15 (refine num_quiet rfl rfl (later_mk (by repeat (first | exact More.refl _ | assumption | refine More.dr ?_ _ | refine More.al ?_ _ | refine More.st ?_ (by simp) _))) ?_; intro K hK; go_big_quiet_op; go_big_quiet_on)
  (refine num_next rfl rfl ?_; intro K hK; unfold loud; go_simp)
  refine ⟨later_mk ((More.drewN _ 1).al _), hK _ _ ?_⟩
  clear hK K
  (refine num_next rfl rfl ?_; intro K hK)
  refine loud_append_sl (.tmp 26) (.tmp 41) 28 rfl w.heap.size 5 i0 (.int .u8 0) 1 Try.underlying28 hi hz0 hz1 hz2 rfl (.slice (some ⟨w.heap.size, 0, none⟩) 0 0) .u8 [] rfl (World.ownsRow_lit (e := 5) (size := 1) (base := w.heap.size) ((w.drewN nq).drewN 1) #[] 0 (Nat.le_refl _) (by unfold maxLen; omega) rfl) (.slice op n cp) ((L0.drop a).take n) rfl (SP.out.keep (((More.drewN w nq).dr 1).al _)) (by simp; omega) (by decide) (by simp) ?_
  intro v8 w8 ho8 hg8 _
  simp only [List.nil_append] at ho8
  have hg9 : More w w8 := (((More.drewN w nq).dr 1).al _).grown hg8 (((More.drewN w nq).dr 1).al _).size (fun z hz => by cases hz; exact Nat.le_refl _)
  have hg10 : More (w.drewN nq) w8 := (((More.refl (w.drewN nq)).dr 1).al _).grown hg8 (((More.refl (w.drewN nq)).dr 1).al _).size (fun z hz => by cases hz; exact Nat.le_refl _)
  refine ⟨later_mk hg10, hK _ _ ?_⟩
  clear hK K
  have HO8 := Lib.hid ho8
  have G9 := Lib.hid hg9
  obtain ⟨o8, n8, c8, rfl, hn8, _⟩ := slice_of_row ho8
  have hn9 : n8 = n := by rw [hn8, List.length_take, List.length_drop]; omega
  clear hn8
  subst n8
  have B9 := blk_more hg9 H1.out
  have BB := Lib.hid B9
  have d1 := blk_cell B9 1 (v := .int .i64 (a : Int)) rfl
  have z1 := blk_free B9 1
  clear B9 hg8 ho8 hg9
  go_simp
  iterate 1 (refine num_quiet rfl rfl (later_mk hg10) ?_; intro K hK; go_big_quiet_op; go_big_quiet_on)
  refine num_nil ?_
  clear C0 C1 hs3 hg10
  go_wp2
  go_ret
  have A0 : Away (fun b => b = R) w8 (w8.setCell ⟨R, 1, none⟩ (.int .i64 ((a : Int) + (n : Int)))) := (Away.refl (fun b => b = R) w8).set (p := ⟨R, 1, none⟩) rfl _
  refine ⟨_, rfl, owns_away HO8.out A0 (fun k hk => by rw [hk]; exact hlt), ⟨a + n, blk_eq (blk_set BB.out 1 _) (by simp), ((H2.out.keep G9.out).away A0 (by rintro b rfl; exact fun o x => rrd_cell BB.out ⟨_, _, _, rfl⟩ o x)), h3, H4.out, by omega, by simp [List.drop_drop]⟩, (Away.of_more G9.out).trans A0⟩
/-- So many bytes, whatever is there. -/
theorem RRaw_any {v0 : Value} {L0 : List Int} {w : World} {R : Nat} {s : RdS} (h : RRd w R v0 L0 s) (n : Int) (hn : 0 ≤ n) :
    Calls Try.prog 94 #[.pointer (some ⟨R, 0, none⟩), .int .i64 n] w fun e w' => ∃ v', e = .returned v' ∧ w'.ownsRow w.heap.size 5 1 v' (tkB s.1 n).length ((tkB s.1 n).map (Value.int .u8)) ∧ RRd w' R v0 L0 (tkS s n) ∧ Away (fun b => b = R) w w' := by
  by_cases he : s.2 = 0
  · obtain ⟨L, e⟩ := s
    simp only at he
    subst he
    by_cases hl : (L.length : Int) < n
    · refine (RRaw_short h n hl).mono ?_
      rintro e w' ⟨rfl, h1, a1⟩
      have e1 : tkB L n = [] := by unfold tkB; rw [if_neg (by omega)]
      have e2 : tkS (L, 0) n = ([], 3) := by unfold tkS tkL tkE; simp only; rw [if_pos ⟨hl, trivial⟩, List.drop_eq_nil_of_le (by omega)]
      rw [e2]
      simp only [e1]
      exact ⟨_, rfl, World.ownsRow_nil _ _ _ _, h1, a1⟩
    · obtain ⟨k, rfl⟩ : ∃ k : Nat, n = k := ⟨n.toNat, by omega⟩
      refine (RRaw_ok h k (by omega)).mono ?_
      rintro e w' ⟨v', rfl, h1, h2, a1⟩
      have e1 : tkB L k = L.take k := by unfold tkB; rw [if_pos (by omega)]; simp
      have e2 : tkS (L, 0) k = (L.drop k, 0) := by unfold tkS tkL tkE; simp only; rw [if_neg (by omega)]; simp
      rw [e2]
      simp only [e1]
      exact ⟨_, rfl, h1, h2, a1⟩
  · obtain ⟨e1, e2⟩ := tkS_shut h.shut he n
    refine (RRaw_bad h he n).mono ?_
    rintro e w' ⟨rfl, rfl⟩
    rw [e1, e2]
    exact ⟨_, rfl, World.ownsRow_nil _ _ _ _, h, Away.refl _ _⟩
theorem RNum_any {v0 : Value} {L0 : List Int} {w : World} {R : Nat} {s : RdS} (h : RRd w R v0 L0 s) (n : Int) (hn : 0 ≤ n) :
    Calls Try.prog 84 #[.pointer (some ⟨R, 0, none⟩), .int .i64 n] w fun e w' => e = .returned (.int .u64 (num (tkB s.1 n))) ∧ RRd w' R v0 L0 (tkS s n) ∧ Away (fun b => b = R) w w' := by
  have hb := tkB_byt h.byt n
  have hsm := tkB_len2 s.1 n
  have h3 := h.small
  have HX := Lib.hid h
  go_enter Try.func84, Try.ntmps84
  go_wp2_with first | (go_at_call 94; ((with_reducible refine (RRaw_any HX.out n hn).mono ?_); rintro e w2 ⟨v2, rfl, ho, h2, a2⟩; have H2 := Lib.hid h2; have A2 := Lib.hid a2; have S2 := SlI.of_owns ho (by omega); clear h2 a2 ho)) | (go_at_call 138; ((with_reducible refine (RNumber_any _ v2 w2 S2 hb).mono ?_); rintro e w3 ⟨rfl, rfl⟩))
  go_ret
  exact ⟨rfl, H2.out, A2.out⟩
theorem RLeft_any {v0 : Value} {L0 : List Int} {w : World} {R : Nat} {s : RdS} (h : RRd w R v0 L0 s) :
    Calls Try.prog 95 #[.pointer (some ⟨R, 0, none⟩)] w fun e w' => e = .returned (.int .i64 (s.1.length : Int)) ∧ More w w' := by
  obtain ⟨a, h1, h2, h3, h4, h5, h6⟩ := h.blk
  obtain ⟨l, e⟩ := s
  simp only at h1 h6 ⊢
  by_cases he : e = 0
  · subst he
    simp only [if_true] at h6
    obtain ⟨oa, cap, rfl, _⟩ := h2
    have c0 := fun k => blk_cell (blk_drewN h1 k) 0 (v := .slice oa L0.length cap) rfl
    have c1 := fun k => blk_cell (blk_drewN h1 k) 1 (v := .int .i64 (a : Int)) rfl
    have c2 := blk_cell h1 2 (v := .int .i64 0) rfl
    have hl : (l.length : Int) = (L0.length : Int) - (a : Int) := by rw [h6, List.length_drop]; omega
    rw [hl]
    clear h1 h h6 hl
    go_enter Try.func95, Try.ntmps95
    go_wp2
    go_quiet (fail)
    go_wp2
    go_ret
    exact ⟨rfl, More.drewN _ _⟩
  · have hq : (e != 0) = true := by simpa using he
    rw [if_neg he] at h6
    have c2 := blk_cell h1 2 (v := .int .i64 e) rfl
    rw [h6]
    clear h1 h h6 he
    go_enter Try.func95, Try.ntmps95
    go_wp2
    go_ret
    exact ⟨rfl, More.refl _⟩
end Go.Proofs.Ytlnikmcimmnbmaa
