/- Contracts of package book: New, Fate, Owe, Settle. -/
import Derived.Test.YtmhkjamibcdcdaaRows
import Derived.Test.YtmhkjamibcdcdaaMapB
import Derived.Test.YtmhkjamibcdcdaaTree
namespace Go.Proofs.Ytmhkjamibcdcdaa
open Go.RowKit
set_option maxRecDepth 100000

abbrev Bk := List ((Int × Int) × Int)
def ke2 (k : Int × Int) : Value := .agg #[.int .i64 k.1, .int .i64 k.2]
theorem equal_key (a b : Int × Int) (w : World) : (Op.equal 54 (ke2 a) (ke2 b)).run Try.prog w = .ok (decide (a = b)) w := by
  have h1 : Try.prog.stoodInHeld 54 = false := by kernel_rfl
  obtain ⟨a1, a2⟩ := a
  obtain ⟨b1, b2⟩ := b
  unfold Op.equal ke2
  rw [show Op.maxDepth = 9999 + 1 from rfl, run_equalIn_agg w 9999 54 _ _ (by kernel_rfl) h1]
  simp [go_sem]
  by_cases e1 : a1 = b1 <;> by_cases e2 : a2 = b2 <;> simp [e1, e2]
theorem check_int {P : Program} {kt : TypeId} {q : IntKind} (ht : P.underlying kt = some (.int q)) (n : Nat) (hn : 0 < n) (b : Bool) (x : Int) (w : World) : (Instr.checkKey b n kt (.int q x)).run P w = .ok () w := by
  obtain ⟨m, rfl⟩ : ∃ m, n = m + 1 := ⟨n - 1, by omega⟩
  unfold Instr.checkKey
  rw [Sem.run_bind, run_underlying ht]
  rfl
theorem keyKey : KeyOK Try.prog 54 ke2 :=
  KeyOK.of_ask Try.underlying54 (fun a b => by simp [Instr.sameNow]) equal_key (fun b k w => by
    rw [show (10000 : Nat) = 9999 + 1 from rfl]
    unfold Instr.checkKey ke2
    simp [run_underlying Try.underlying54, go_sem, check_int Try.underlying3 9999 (by decide)]) (fun k => by simp [Instr.sameBits, ke2])

/-- A book: its own block, its map's. -/
structure BookAt (w : World) (B b : Nat) (m : Bk) : Prop where
  blk : w.heap[B]? = some (.cells #[.map (some b)] 138 (0, 0))
  map : MapAt w b ke2 (Value.int .i64) m
  ok : ∀ p ∈ m, 0 ≤ p.2 ∧ p.2 ≤ 8
theorem BookAt.ne {w : World} {B b : Nat} {m : Bk} (h : BookAt w B b m) : B ≠ b := by
  intro e
  obtain ⟨es, cl, hb, _⟩ := h.map.ex
  have := h.blk
  rw [e, hb] at this
  cases this
theorem BookAt.more {w w' : World} {B b : Nat} {m : Bk} (h : BookAt w B b m) (mm : More w w') : BookAt w' B b m := ⟨blk_more mm h.blk, h.map.more mm, h.ok⟩
theorem BookAt.away {w w' : World} {B b : Nat} {m : Bk} {S : Nat → Prop} (h : BookAt w B b m) (a : Away S w w') (h1 : ¬ S B) (h2 : ¬ S b) : BookAt w' B b m := ⟨a.blk h.blk h1, h.map.away a h2, h.ok⟩
theorem zero_fate (w : World) : (zeroValue 57).run Try.prog w = .ok (.int .i64 0) w := by kernel_rfl
theorem BookAt.look {w : World} {B b : Nat} {m : Bk} (h : BookAt w B b m) (k : Int × Int) (n : Nat) :
    (Instr.lookup 136 (.map (some b)) (.agg #[.int .i64 k.1, .int .i64 k.2]) true).run Try.prog (w.drewN n) = .ok (.tuple #[.int .i64 ((mget m k).getD 0), .bool (mget m k).isSome]) (w.drewN n) := by
  have := (h.map.more (More.drewN w n)).look keyKey Try.underlying136 (zero_fate _) k true
  unfold ke2 at this
  rw [this]
  cases mget m k <;> rfl
set_option maxHeartbeats 400000 in
theorem BNew (w : World) : Calls Try.prog 27 #[] w fun e w' => ∃ B b, e = .returned (.pointer (some ⟨B, 0, none⟩)) ∧ w.heap.size ≤ B ∧ w.heap.size ≤ b ∧ BookAt w' B b [] ∧ More w w' := by
  go_enter Try.func27, Try.ntmps27
  have hmm := @run_makeMap Try.prog
  go_wp2
  go_ret
  exact ⟨w.heap.size + 1, w.heap.size, rfl, by omega, by omega, ⟨blk_new2 (by simp), (MapAt.made w ke2 (Value.int .i64)).more (More.alloc _ _), by simp⟩, (More.alloc _ _).al _⟩
set_option maxHeartbeats 400000 in
theorem BFate {w : World} {B b : Nat} {m : Bk} (h : BookAt w B b m) (k : Int × Int) :
    Calls Try.prog 28 #[.pointer (some ⟨B, 0, none⟩), .agg #[.int .i64 k.1, .int .i64 k.2]] w fun e w' => e = .returned (.tuple #[.int .i64 ((mget m k).getD 0), .bool (mget m k).isSome]) ∧ More w w' := by
  have h1 := h.more (More.alloc w (.cells #[.int .i64 k.1, .int .i64 k.2] 54))
  have c0 := blk_cell h1.blk 0 (v := .map (some b)) rfl
  have q := h1.look k
  clear h1 h
  go_enter Try.func28, Try.ntmps28
  go_wp2
  refine wp_region_quiet_lit (by kernel_rfl) (by kernel_rfl) ?_
  repeat (go_big_quiet_step (fail))
  refine wpQuiet_nil ?_
  intro _ hw'
  obtain ⟨nq, rfl⟩ := hw'
  go_wp2
  go_ret2
  exact ⟨rfl, (More.alloc _ _).dr _⟩
end Go.Proofs.Ytmhkjamibcdcdaa
