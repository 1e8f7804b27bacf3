/- Merged from my texts FeedR, ReportS, CompA. -/
import Derived.Test.YtlnikmcimmnbmaaMg28
import Derived.Test.YtlnikmcimmnbmaaMg18
import Derived.Test.YtlnikmcimmnbmaaMg14
import Derived.Deep.MidRow
import Derived.Deep.WholeRow
/- Messages that came in: the reader. -/
namespace Go.Proofs.Ytlnikmcimmnbmaa
set_option linter.unusedSimpArgs false
set_option linter.unusedVariables false
open Go.RowKit Go.Lib
set_option maxRecDepth 100000

def RMsg : Reader Msg := fun w cs m => ∃ va vl, cs = [.int .i64 m.kind, .int .u32 m.snd, .int .u32 m.med, va, vl] ∧ MsgS w va vl m ∧ MsgOK m
def TAsk : Reader (Int × Int × Unit) := RCons 1 (RInt .u32) (RCons 1 (RInt .u8) RNil)
theorem ask_of_t {w : World} {cs : List Value} {y : Int × Int × Unit} (hl : cs.length = 2) (h : TAsk w cs y) : ∃ z, RAsk w cs z := by
  obtain ⟨⟨h1, w1⟩, ⟨h2, w2⟩, -⟩ := h
  match cs, hl with
  | [c0, c1], _ =>
    simp at h1 h2
    refine ⟨(y.1, y.2.1), by rw [h1, h2], bounds_u32 w1, bounds_u8 w2⟩
theorem opensAsk : Opens Try.prog 177 RAsk :=
  Opens.map (Opens.struct Try.underlying177 (by kernel_rfl) (OpensF.cons rfl (by kernel_rfl) (Opens.int Try.underlying22) (OpensF.cons rfl (by kernel_rfl) (Opens.int Try.underlying5) OpensF.nil)))
    2 (trod_len Try.underlying177 (by kernel_rfl)) (fun _ _ _ hl h => ask_of_t hl h)
def TMsg : Reader (Int × Int × Int × List (Int × Int) × List Int × Unit) := RCons 1 (RInt .i64) (RCons 1 (RInt .u32) (RCons 1 (RInt .u32) (RCons 1 (RSl 2 RAsk) (RCons 1 (RSl 1 (RInt .u16)) RNil))))
theorem msg_of_t {w : World} {cs : List Value} {y : Int × Int × Int × List (Int × Int) × List Int × Unit} (hl : cs.length = 5) (h : TMsg w cs y) : ∃ z, RMsg w cs z := by
  obtain ⟨⟨h1, w1⟩, ⟨h2, w2⟩, ⟨h3, w3⟩, ⟨va, h4, s4⟩, ⟨vl, h5, s5⟩, -⟩ := h
  match cs, hl with
  | [c0, c1, c2, c3, c4], _ =>
    simp at h1 h2 h3 h4 h5
    obtain ⟨s6, u6⟩ := SlP.ints s5
    refine ⟨⟨y.1, y.2.1, y.2.2.1, y.2.2.2.1, y.2.2.2.2.1⟩, va, vl, by rw [h1, h2, h3, h4, h5], ⟨s4, s6⟩, bounds_u32 w2, bounds_u32 w3, slP_mem s4 (fun cs y h => h.2), fun x hx => bounds_u16 (u6 x hx)⟩
theorem opensMsg : Opens Try.prog 85 RMsg :=
  Opens.map (Opens.struct Try.underlying85 (by kernel_rfl) (OpensF.cons rfl (by kernel_rfl) (Opens.int Try.underlying3) (OpensF.cons rfl (by kernel_rfl) (Opens.int Try.underlying22) (OpensF.cons rfl (by kernel_rfl) (Opens.int Try.underlying22) (OpensF.cons rfl (by kernel_rfl) (Opens.sl Try.underlying82 (by kernel_rfl) (by decide) opensAsk) (OpensF.cons rfl (by kernel_rfl) (Opens.sl Try.underlying83 (by kernel_rfl) (by decide) (Opens.int Try.underlying52)) OpensF.nil))))))
    5 (trod_len Try.underlying85 (by kernel_rfl)) (fun _ _ _ hl h => msg_of_t hl h)
end Go.Proofs.Ytlnikmcimmnbmaa
/- Reports: facts that the laws ask. -/
namespace Go.Proofs.Ytlnikmcimmnbmaa
set_option linter.unusedSimpArgs false
set_option linter.unusedVariables false
open Go.RowKit
set_option maxRecDepth 100000

theorem rep_cells {w : World} {cs : Array Value} {r : Rep} (h : RRep w cs.toList r) : ∃ oa cap, cs = #[.bool r.snd, .int .u32 r.src, .int .u32 r.inf.sec, .int .u32 r.inf.frac, .int .u32 r.inf.stamp, .int .u32 r.inf.pkts, .int .u32 r.inf.octs, .slice oa r.bl.length cap] ∧ SlP 7 RBlk w (.slice oa r.bl.length cap) r.bl ∧ RepOK r := by
  obtain ⟨vb, h1, h2, h3⟩ := h
  have H := h2
  obtain ⟨oa, cap, rfl, _⟩ := h2
  refine ⟨oa, cap, ?_, H, h3⟩
  rw [← Array.toArray_toList (xs := cs), h1]
  rfl
theorem chunk_cells {w : World} {cs : Array Value} {c : Chunk} (h : RChunk w cs.toList c) (hl : cs.size = 3) : ∃ oa cap, cs = #[.int .u8 c.1, .int .u8 c.2.1, .slice oa c.2.2.1.length cap] ∧ SlI .u8 w (.slice oa c.2.2.1.length cap) c.2.2.1 ∧ ChunkOK c := by
  obtain ⟨vb, h1, h2, h3⟩ := chunk_of h (by simpa using hl)
  have H := h2
  obtain ⟨oa, cap, rfl, _⟩ := h2
  refine ⟨oa, cap, ?_, H, h3⟩
  rw [← Array.toArray_toList (xs := cs), h1]
theorem writeR_ok {r : Rep} (hk : RepOK r) : ChunkOK (writeR r).1 := by
  cases h : rightR r with
  | false => rw [writeR_no h]; exact ⟨by decide, by decide, byt_nil⟩
  | true =>
    have hr := writeR_right h
    rw [rightB_iff] at hr
    rw [writeR_yes h] at hr ⊢
    have hbys : ∀ x s, 0 ≤ s ∧ s ≤ 8 → Byt (bysA x s) := fun x s hs => by rw [bysA_pos x s hs]; exact Byt_bys _ _
    refine ⟨⟨by simp only; omega, by have := hr.1; simp only at this ⊢; omega⟩, ?_, ?_⟩
    · cases r.snd <;> simp
    · have h4 : ∀ x, Byt (bysA x 4) := fun x => hbys x 4 (by decide)
      have hf : ∀ l : List Blk, Byt (flR l) := by
        intro l
        induction l with
        | nil => exact byt_nil
        | cons b l ih =>
          rw [flR_cons]
          refine byt_app ?_ ih
          unfold blkB
          exact byt_app (h4 _) (byt_app (hbys _ _ (by decide)) (byt_app (hbys _ _ (by decide)) (byt_app (h4 _) (byt_app (h4 _) (byt_app (h4 _) (h4 _))))))
      show Byt (repB r)
      unfold repB headB
      refine byt_app (byt_app (h4 _) ?_) (hf _)
      cases r.snd with
      | false => exact byt_nil
      | true => exact byt_app (h4 _) (byt_app (h4 _) (byt_app (h4 _) (byt_app (h4 _) (h4 _))))
theorem writeR_small {r : Rep} : (writeR r).1.2.2.1.length ≤ 1000000 := by
  cases h : rightR r with
  | false => rw [writeR_no h]; simp
  | true =>
    have hr := writeR_right h
    rw [rightB_iff] at hr
    omega
end Go.Proofs.Ytlnikmcimmnbmaa
/- Package compound: items that came in; whether an item may be. -/
namespace Go.Proofs.Ytlnikmcimmnbmaa
set_option linter.unusedSimpArgs false
set_option linter.unusedVariables false
open Go.RowKit Go.Lib
set_option maxRecDepth 100000

structure ItmS (w : World) (vb va vl vo : Value) (x : Itm) : Prop where
  bl : SlP 7 RBlk w vb x.rep.bl
  ms : MsgS w va vl x.msg
  bo : SlI .u8 w vo x.oth.2.2.1
theorem ItmS.keep {w w' : World} {vb va vl vo : Value} {x : Itm} (h : ItmS w vb va vl vo x) (m : More w w') : ItmS w' vb va vl vo x := ⟨h.bl.keep keepsBlk m, h.ms.keep m, h.bo.keep m⟩
def itmC (x : Itm) (vb va vl vo : Value) : List Value := [.int .i64 x.kind, .bool x.rep.snd, .int .u32 x.rep.src, .int .u32 x.rep.inf.sec, .int .u32 x.rep.inf.frac, .int .u32 x.rep.inf.stamp, .int .u32 x.rep.inf.pkts, .int .u32 x.rep.inf.octs, vb, .int .i64 x.msg.kind, .int .u32 x.msg.snd, .int .u32 x.msg.med, va, vl, .int .u8 x.oth.1, .int .u8 x.oth.2.1, vo]
def RItm : Reader Itm := fun w cs x => ∃ vb va vl vo, cs = itmC x vb va vl vo ∧ ItmS w vb va vl vo x ∧ ItmOK x
theorem keepsItm : Keeps RItm := fun _ _ _ _ m ⟨vb, va, vl, vo, h1, h2, h3⟩ => ⟨vb, va, vl, vo, h1, h2.keep m, h3⟩
def TItm : Reader (Int × Rep × Msg × Chunk × Unit) := RCons 1 (RInt .i64) (RCons 8 RRep (RCons 5 RMsg (RCons 3 RChunk RNil)))
theorem itm_of_t {w : World} {cs : List Value} {y : Int × Rep × Msg × Chunk × Unit} (hl : cs.length = 17) (h : TItm w cs y) : ∃ z, RItm w cs z := by
  obtain ⟨⟨h1, w1⟩, ⟨vb, h2, s2, k2⟩, ⟨va, vl, h3, s3, k3⟩, h4, -⟩ := h
  match cs, hl with
  | [c0, c1, c2, c3, c4, c5, c6, c7, c8, c9, c10, c11, c12, c13, c14, c15, c16], _ =>
    obtain ⟨vo, h5, s5, k5⟩ := chunk_of h4 rfl
    simp [Rep.cells] at h1 h2 h3 h5
    refine ⟨⟨y.1, y.2.1, y.2.2.1, y.2.2.2.1⟩, vb, va, vl, vo, ?_, ⟨s2, s3, s5⟩, k2, k3, k5⟩
    unfold itmC
    simp only
    rw [h1]
    simp [h2, h3, h5]
theorem opensItm : Opens Try.prog 122 RItm :=
  Opens.map (Opens.struct Try.underlying122 (by kernel_rfl) (OpensF.cons rfl (by kernel_rfl) (Opens.int Try.underlying3) (OpensF.cons rfl (by kernel_rfl) opensRep (OpensF.cons rfl (by kernel_rfl) opensMsg (OpensF.cons rfl (by kernel_rfl) opensChunk OpensF.nil)))))
    17 (trod_len Try.underlying122 (by kernel_rfl)) (fun _ _ _ hl h => itm_of_t hl h)
theorem RangeAt.more {w w' : World} {b o : Nat} {cs : List Value} (h : w.rangeAt b o cs) (m : More w w') (hb : b < w.heap.size) : w'.rangeAt b o cs := fun j v hv => by
  rw [m.cells b _ hb]
  exact h j v hv
/-- A struct goes into the block that was made last. -/
theorem wpList_store_new {P : Program} {ops : Array Oper} {rest : List Oper} {o : Oper} {a : Act} {w : World} {Q : Exit → Act → World → Prop} (hgd : o.guard = none) (ty : TypeId) (x y : Operand) (ho : o.op = .store ty x y)
    (w0 : World) (c c' : Array Value) (hw : w = w0.alloc (.cells c ty)) (hx : a.eval x = .pointer (some ⟨w0.heap.size, 0, none⟩)) (hy : a.eval y = .agg c')
    (hi : (P.info? ty).map (·.size) = some c'.size) (hs : c.size = c'.size) (h1 : c'.all (·.oneCell') = true)
    (h : wpList P ops Q rest (a.put o.dst undef) (w0.alloc (.cells c' ty))) : wpList P ops Q (o :: rest) a w := by
  subst hw
  refine wpList_plain hgd fun K hK => ?_
  unfold Oper.wp execOp
  simp only [ho, hx, hy, Sem.run_bind, Sem.run_pure, Result.andThen_ok, run_storeAt_new w0 ty c c' hi hs h1]
  exact hK _ _ h
theorem items {w : World} {v : Value} {l : List Itm} (h : SlP 17 RItm w v l) : ∃ oa cap, v = .slice oa l.length cap ∧ (l.length : Int) ≤ 9223372036854775807 ∧ (∀ i, i < l.length → ∃ b off ob cb oc cc od cd oe ce, oa = some ⟨b, off, none⟩ ∧ b < w.heap.size ∧
    w.rangeAt b (off + i * 17) (itmC (l.getD i itm0) (.slice ob (l.getD i itm0).rep.bl.length cb) (.slice oc (l.getD i itm0).msg.asks.length cc) (.slice od (l.getD i itm0).msg.lost.length cd) (.slice oe (l.getD i itm0).oth.2.2.1.length ce)) ∧
    ItmS w (.slice ob (l.getD i itm0).rep.bl.length cb) (.slice oc (l.getD i itm0).msg.asks.length cc) (.slice od (l.getD i itm0).msg.lost.length cd) (.slice oe (l.getD i itm0).oth.2.2.1.length ce) (l.getD i itm0)) ∧ ∀ x ∈ l, ItmOK x := by
  obtain ⟨oa, cap, h1, h2, h3, h4⟩ := id h
  refine ⟨oa, cap, h1, h2, fun i hi => ?_, slP_mem h (fun cs y ⟨_, _, _, _, _, _, k⟩ => k)⟩
  obtain ⟨b, off, cs, e, hb, hl, hc, vb, va, vl, vo, rfl, hs, hk⟩ := h3 i hi
  have eg : l.getD i itm0 = l[i] := by simp [hi]
  rw [eg]
  generalize l[i] = x at *
  obtain ⟨ob, cb, rfl, _⟩ := id hs.bl
  obtain ⟨oc, cc, rfl, _⟩ := id hs.ms.asks
  obtain ⟨od, cd, rfl, _⟩ := id hs.ms.lost
  obtain ⟨oe, ce, rfl, _⟩ := id hs.bo
  refine ⟨b, off, ob, cb, oc, cc, od, cd, oe, ce, e, hb, fun j v hv => ?_, hs⟩
  have hj : j < 17 := (List.getElem?_eq_some_iff.1 hv).1
  rw [hc j hj]
  exact hv
theorem cells17 {w : World} {b : Nat} {t : TypeId} {a0 a1 a2 a3 a4 a5 a6 a7 a8 a9 a10 a11 a12 a13 a14 a15 a16 : Value} (h : w.heap[b]? = some (.cells #[a0, a1, a2, a3, a4, a5, a6, a7, a8, a9, a10, a11, a12, a13, a14, a15, a16] t (0, 0))) :
    (w.cell? ⟨b, 0, none⟩ = some a0 ∧ w.cell? ⟨b, 1, none⟩ = some a1 ∧ w.cell? ⟨b, 2, none⟩ = some a2 ∧ w.cell? ⟨b, 3, none⟩ = some a3 ∧ w.cell? ⟨b, 4, none⟩ = some a4 ∧ w.cell? ⟨b, 5, none⟩ = some a5 ∧ w.cell? ⟨b, 6, none⟩ = some a6 ∧ w.cell? ⟨b, 7, none⟩ = some a7 ∧ w.cell? ⟨b, 8, none⟩ = some a8) ∧
    (w.cell? ⟨b, 9, none⟩ = some a9 ∧ w.cell? ⟨b, 10, none⟩ = some a10 ∧ w.cell? ⟨b, 11, none⟩ = some a11 ∧ w.cell? ⟨b, 12, none⟩ = some a12 ∧ w.cell? ⟨b, 13, none⟩ = some a13) ∧ (w.cell? ⟨b, 14, none⟩ = some a14 ∧ w.cell? ⟨b, 15, none⟩ = some a15 ∧ w.cell? ⟨b, 16, none⟩ = some a16) :=
  ⟨⟨blk_cell h 0 rfl, blk_cell h 1 rfl, blk_cell h 2 rfl, blk_cell h 3 rfl, blk_cell h 4 rfl, blk_cell h 5 rfl, blk_cell h 6 rfl, blk_cell h 7 rfl, blk_cell h 8 rfl⟩, ⟨blk_cell h 9 rfl, blk_cell h 10 rfl, blk_cell h 11 rfl, blk_cell h 12 rfl, blk_cell h 13 rfl⟩, blk_cell h 14 rfl, blk_cell h 15 rfl, blk_cell h 16 rfl⟩
theorem inf_eq (i j : Inf) (w : World) :
    (binOp .eql 24 (.agg #[.int .u32 i.sec, .int .u32 i.frac, .int .u32 i.stamp, .int .u32 i.pkts, .int .u32 i.octs]) (.agg #[.int .u32 j.sec, .int .u32 j.frac, .int .u32 j.stamp, .int .u32 j.pkts, .int .u32 j.octs])).run Try.prog w = .ok (.bool (decide (i = j))) w := by
  have h1 : Try.prog.stoodInHeld 24 = false := by kernel_rfl
  rw [run_eql_struct, run_equalIn_agg w 9999 24 _ _ (by kernel_rfl) h1]
  simp only [inf_iff]
  simp [go_sem]
  by_cases h1 : i.sec = j.sec <;> by_cases h2 : i.frac = j.frac <;> by_cases h3 : i.stamp = j.stamp <;> by_cases h4 : i.pkts = j.pkts <;> by_cases h5 : i.octs = j.octs <;> simp [h1, h2, h3, h4, h5]
theorem inf_eq0 (i : Inf) (D : Bool) (h : decide (i = inf0) = D) (w : World) :
    (binOp .eql 24 (.agg #[.int .u32 i.sec, .int .u32 i.frac, .int .u32 i.stamp, .int .u32 i.pkts, .int .u32 i.octs]) (.agg #[.int .u32 0, .int .u32 0, .int .u32 0, .int .u32 0, .int .u32 0])).run Try.prog w = .ok (.bool D) w := by
  rw [← h]
  exact inf_eq i inf0 w
theorem rep0_iff (r : Rep) : r = rep0 ↔ r.snd = false ∧ r.src = 0 ∧ r.inf = inf0 ∧ r.bl = [] := by
  obtain ⟨⟩ := r
  simp [rep0]
theorem msg0_iff (m : Msg) : m = msg0 ↔ m.kind = 0 ∧ m.snd = 0 ∧ m.med = 0 ∧ m.asks = [] ∧ m.lost = [] := by
  obtain ⟨⟩ := m
  simp [msg0]
theorem oth0_iff (c : Chunk) : c = oth0 ↔ c.1 = 0 ∧ c.2.1 = 0 ∧ c.2.2.1 = [] := by
  obtain ⟨a, b, c, ⟨⟩⟩ := c
  simp [oth0]
theorem len_eq0 {α : Type} {l : List α} (h : l = []) : (((l.length : Nat) : Int) == 0) = true := by subst h; rfl
theorem len_ne0 {α : Type} {l : List α} (h : ¬ l = []) : (((l.length : Nat) : Int) == 0) = false := by
  cases l with
  | nil => exact absurd rfl h
  | cons a l => simp; omega
theorem NoRep_any (r : Rep) (ob : Option Addr) (cb : Nat) (w : World) :
    Calls Try.prog 128 #[.agg #[.bool r.snd, .int .u32 r.src, .int .u32 r.inf.sec, .int .u32 r.inf.frac, .int .u32 r.inf.stamp, .int .u32 r.inf.pkts, .int .u32 r.inf.octs, .slice ob r.bl.length cb]] w fun e w' => e = .returned (.bool (decide (r = rep0))) ∧ More w w' := by
  have hg := inf_guard
  by_cases h1 : r.snd = false
  · by_cases h2 : r.src = 0
    · have b2 : (r.src == 0) = true := by rw [h2]; rfl
      by_cases h3 : r.inf = inf0
      · have hi := inf_eq0 r.inf true (decide_eq_true h3)
        by_cases h4 : r.bl = []
        · have b4 := len_eq0 h4
          have HD := Lib.hid (show decide (r = rep0) = true from decide_eq_true ((rep0_iff r).2 ⟨h1, h2, h3, h4⟩))
          rw [h1]
          clear h1 h2 h3 h4
          go_enter Try.func128, Try.ntmps128
          go_wp2
          go_ret
          exact ⟨by rw [HD.out]; rfl, More.alloc _ _⟩
        · have b4 := len_ne0 h4
          have HD := Lib.hid (show decide (r = rep0) = false from decide_eq_false (fun e => h4 ((rep0_iff r).1 e).2.2.2))
          rw [h1]
          clear h1 h2 h3 h4
          go_enter Try.func128, Try.ntmps128
          go_wp2
          go_ret
          exact ⟨by rw [HD.out]; rfl, More.alloc _ _⟩
      · have hi := inf_eq0 r.inf false (decide_eq_false h3)
        have HD := Lib.hid (show decide (r = rep0) = false from decide_eq_false (fun e => h3 ((rep0_iff r).1 e).2.2.1))
        rw [h1]
        clear h1 h2 h3
        go_enter Try.func128, Try.ntmps128
        go_wp2
        go_ret
        exact ⟨by rw [HD.out]; rfl, More.alloc _ _⟩
    · have b2 : (r.src == 0) = false := beq_eq_false_iff_ne.2 h2
      have HD := Lib.hid (show decide (r = rep0) = false from decide_eq_false (fun e => h2 ((rep0_iff r).1 e).2.1))
      rw [h1]
      clear h1 h2
      go_enter Try.func128, Try.ntmps128
      go_wp2
      go_ret
      exact ⟨by rw [HD.out]; rfl, More.alloc _ _⟩
  · have HD := Lib.hid (show decide (r = rep0) = false from decide_eq_false (fun e => h1 ((rep0_iff r).1 e).1))
    have h1' : r.snd = true := by simpa using h1
    rw [h1']
    clear h1 h1'
    go_enter Try.func128, Try.ntmps128
    go_wp2
    go_ret
    exact ⟨by rw [HD.out]; rfl, More.alloc _ _⟩
theorem NoMsg_any (m : Msg) (oa ol : Option Addr) (ca cl : Nat) (w : World) :
    Calls Try.prog 126 #[.agg #[.int .i64 m.kind, .int .u32 m.snd, .int .u32 m.med, .slice oa m.asks.length ca, .slice ol m.lost.length cl]] w fun e w' => e = .returned (.bool (decide (m = msg0))) ∧ More w w' := by
  by_cases h1 : m.kind = 0
  · have b1 : (m.kind == 0) = true := by rw [h1]; rfl
    by_cases h2 : m.snd = 0
    · have b2 : (m.snd == 0) = true := by rw [h2]; rfl
      by_cases h3 : m.med = 0
      · have b3 : (m.med == 0) = true := by rw [h3]; rfl
        by_cases h4 : m.asks = []
        · have b4 := len_eq0 h4
          by_cases h5 : m.lost = []
          · have b5 := len_eq0 h5
            have HD := Lib.hid (show decide (m = msg0) = true from decide_eq_true ((msg0_iff m).2 ⟨h1, h2, h3, h4, h5⟩))
            clear h1 h2 h3 h4 h5
            go_enter Try.func126, Try.ntmps126
            go_wp2
            go_ret
            exact ⟨by rw [HD.out]; rfl, More.alloc _ _⟩
          · have b5 := len_ne0 h5
            have HD := Lib.hid (show decide (m = msg0) = false from decide_eq_false (fun e => h5 ((msg0_iff m).1 e).2.2.2.2))
            clear h1 h2 h3 h4 h5
            go_enter Try.func126, Try.ntmps126
            go_wp2
            go_ret
            exact ⟨by rw [HD.out]; rfl, More.alloc _ _⟩
        · have b4 := len_ne0 h4
          have HD := Lib.hid (show decide (m = msg0) = false from decide_eq_false (fun e => h4 ((msg0_iff m).1 e).2.2.2.1))
          clear h1 h2 h3 h4
          go_enter Try.func126, Try.ntmps126
          go_wp2
          go_ret
          exact ⟨by rw [HD.out]; rfl, More.alloc _ _⟩
      · have b3 : (m.med == 0) = false := beq_eq_false_iff_ne.2 h3
        have HD := Lib.hid (show decide (m = msg0) = false from decide_eq_false (fun e => h3 ((msg0_iff m).1 e).2.2.1))
        clear h1 h2 h3
        go_enter Try.func126, Try.ntmps126
        go_wp2
        go_ret
        exact ⟨by rw [HD.out]; rfl, More.alloc _ _⟩
    · have b2 : (m.snd == 0) = false := beq_eq_false_iff_ne.2 h2
      have HD := Lib.hid (show decide (m = msg0) = false from decide_eq_false (fun e => h2 ((msg0_iff m).1 e).2.1))
      clear h1 h2
      go_enter Try.func126, Try.ntmps126
      go_wp2
      go_ret
      exact ⟨by rw [HD.out]; rfl, More.alloc _ _⟩
  · have b1 : (m.kind == 0) = false := beq_eq_false_iff_ne.2 h1
    have HD := Lib.hid (show decide (m = msg0) = false from decide_eq_false (fun e => h1 ((msg0_iff m).1 e).1))
    clear h1
    go_enter Try.func126, Try.ntmps126
    go_wp2
    go_ret
    exact ⟨by rw [HD.out]; rfl, More.alloc _ _⟩
theorem NoOth_any (c : Chunk) (ob : Option Addr) (cb : Nat) (w : World) :
    Calls Try.prog 127 #[.agg #[.int .u8 c.1, .int .u8 c.2.1, .slice ob c.2.2.1.length cb]] w fun e w' => e = .returned (.bool (decide (c = oth0))) ∧ More w w' := by
  by_cases h1 : c.1 = 0
  · have b1 : (c.1 == 0) = true := by rw [h1]; rfl
    by_cases h2 : c.2.1 = 0
    · have b2 : (c.2.1 == 0) = true := by rw [h2]; rfl
      by_cases h3 : c.2.2.1 = []
      · have b3 := len_eq0 h3
        have HD := Lib.hid (show decide (c = oth0) = true from decide_eq_true ((oth0_iff c).2 ⟨h1, h2, h3⟩))
        clear h1 h2 h3
        go_enter Try.func127, Try.ntmps127
        go_wp2
        go_ret
        exact ⟨by rw [HD.out]; rfl, More.alloc _ _⟩
      · have b3 := len_ne0 h3
        have HD := Lib.hid (show decide (c = oth0) = false from decide_eq_false (fun e => h3 ((oth0_iff c).1 e).2.2))
        clear h1 h2 h3
        go_enter Try.func127, Try.ntmps127
        go_wp2
        go_ret
        exact ⟨by rw [HD.out]; rfl, More.alloc _ _⟩
    · have b2 : (c.2.1 == 0) = false := beq_eq_false_iff_ne.2 h2
      have HD := Lib.hid (show decide (c = oth0) = false from decide_eq_false (fun e => h2 ((oth0_iff c).1 e).2.1))
      clear h1 h2
      go_enter Try.func127, Try.ntmps127
      go_wp2
      go_ret
      exact ⟨by rw [HD.out]; rfl, More.alloc _ _⟩
  · have b1 : (c.1 == 0) = false := beq_eq_false_iff_ne.2 h1
    have HD := Lib.hid (show decide (c = oth0) = false from decide_eq_false (fun e => h1 ((oth0_iff c).1 e).1))
    clear h1
    go_enter Try.func127, Try.ntmps127
    go_wp2
    go_ret
    exact ⟨by rw [HD.out]; rfl, More.alloc _ _⟩
theorem Strange_any (c : Chunk) (vo : Value) (w : World) (s : SlI .u8 w vo c.2.2.1) (hk : ChunkOK c) (hl : c.2.2.1.length ≤ 1000000) :
    Calls Try.prog 129 #[.agg #[.int .u8 c.1, .int .u8 c.2.1, vo]] w fun e w' => e = .returned (.bool (strangeC c)) ∧ More w w' := by
  have S := Lib.hid s
  have HK := Lib.hid hk
  clear s hk
  by_cases h1 : c.2.1 = 200
  · have b1 : (c.2.1 == 200) = true := by rw [h1]; rfl
    have HD := Lib.hid (show strangeC c = false by unfold strangeC; rw [b1]; rfl)
    clear h1
    go_enter Try.func129, Try.ntmps129
    go_wp2
    go_ret
    exact ⟨by rw [HD.out]; rfl, More.alloc _ _⟩
  · have b1 : (c.2.1 == 200) = false := beq_eq_false_iff_ne.2 h1
    by_cases h2 : c.2.1 = 201
    · have b2 : (c.2.1 == 201) = true := by rw [h2]; rfl
      have HD := Lib.hid (show strangeC c = false by unfold strangeC; rw [b1, b2]; rfl)
      clear h1 h2
      go_enter Try.func129, Try.ntmps129
      go_wp2
      go_ret
      exact ⟨by rw [HD.out]; rfl, More.alloc _ _⟩
    · have b2 : (c.2.1 == 201) = false := beq_eq_false_iff_ne.2 h2
      have HD := Lib.hid (show strangeC c = ((readM c).2 == 5) by unfold strangeC; rw [b1, b2]; rfl)
      clear h1 h2
      go_enter Try.func129, Try.ntmps129
      go_wp2_with (go_at_call 44; ((with_reducible refine (Read09_any c (S.out.keep (More.alloc _ _)) HK.out hl).mono ?_); rintro e w1 ⟨⟨va, vl, rfl, s1⟩, m1⟩; obtain ⟨oa1, ca1, rfl, _⟩ := id s1.asks; obtain ⟨ol1, cl1, rfl, _⟩ := id s1.lost; clear s1; have M1 := Lib.hid ((More.alloc _ _).trans m1); clear m1))
      go_ret
      exact ⟨by rw [HD.out]; rfl, M1.out.al _⟩
end Go.Proofs.Ytlnikmcimmnbmaa
