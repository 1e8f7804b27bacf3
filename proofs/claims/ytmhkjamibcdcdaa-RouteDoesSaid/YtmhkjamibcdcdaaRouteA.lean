/- Contracts of package route: New, Find, Source, Of, published. -/
import Derived.Test.YtmhkjamibcdcdaaRows
import Derived.Test.YtmhkjamibcdcdaaMapB
import Derived.Test.YtmhkjamibcdcdaaTree
namespace Go.Proofs.Ytmhkjamibcdcdaa
open Go.RowKit
set_option maxRecDepth 100000

abbrev Og := Int × Int
abbrev Sb := Int × Bool × Int
structure TS where
  o : List (Int × Og)
  s : List (Og × Int)
  u : List (Int × Sb)
def kO (k : Og) : Value := .agg #[.int .i64 k.1, .int .i64 k.2]
def vS (x : Sb) : Value := .agg #[.int .u32 x.1, .bool x.2.1, .int .i64 x.2.2]
theorem equal_org (a b : Og) (w : World) : (Op.equal 74 (kO a) (kO b)).run Try.prog w = .ok (decide (a = b)) w := by
  have h1 : Try.prog.stoodInHeld 74 = false := by kernel_rfl
  obtain ⟨a1, a2⟩ := a
  obtain ⟨b1, b2⟩ := b
  unfold Op.equal kO
  rw [show Op.maxDepth = 9999 + 1 from rfl, run_equalIn_agg w 9999 74 _ _ (by kernel_rfl) h1]
  simp [go_sem]
  by_cases e1 : a1 = b1 <;> by_cases e2 : a2 = b2 <;> simp [e1, e2]
theorem chk_int {P : Program} {kt : TypeId} {q : IntKind} (ht : P.underlying kt = some (.int q)) (n : Nat) (hn : 0 < n) (b : Bool) (x : Int) (w : World) : (Instr.checkKey b n kt (.int q x)).run P w = .ok () w := by
  obtain ⟨m, rfl⟩ : ∃ m, n = m + 1 := ⟨n - 1, by omega⟩
  unfold Instr.checkKey
  rw [Sem.run_bind, run_underlying ht]
  rfl
theorem keyOrg : KeyOK Try.prog 74 kO :=
  KeyOK.of_ask Try.underlying74 (fun a b => by simp [Instr.sameNow]) equal_org (fun b k w => by
    rw [show (10000 : Nat) = 9999 + 1 from rfl]
    unfold Instr.checkKey kO
    simp [run_underlying Try.underlying74, go_sem, chk_int Try.underlying3 9999 (by decide)]) (fun k => by simp [Instr.sameBits, kO])
theorem keyU32 : KeyOK Try.prog 79 (Value.int .u32) := keyInt Try.underlying79
theorem keyI64 : KeyOK Try.prog 3 (Value.int .i64) := keyInt Try.underlying3
/-- A table: its own block, its maps'. -/
structure TabAt (w : World) (T a b c : Nat) (t : TS) : Prop where
  blk : w.heap[T]? = some (.cells #[.map (some a), .map (some b), .map (some c)] 149 (0, 0))
  mo : MapAt w a (Value.int .u32) kO t.o
  ms : MapAt w b kO (Value.int .u32) t.s
  mu : MapAt w c (Value.int .i64) vS t.u
  ab : a ≠ b
  ac : a ≠ c
  bc : b ≠ c
theorem map_ne {K V : Type} {w : World} {B b : Nat} {cs : Array Value} {t : TypeId} {ke : K → Value} {ve : V → Value} {L : List (K × V)} (h : w.heap[B]? = some (.cells cs t (0, 0))) (hm : MapAt w b ke ve L) : B ≠ b := by
  intro e
  obtain ⟨es, cl, hb, _⟩ := hm.ex
  rw [e, hb] at h
  cases h
theorem TabAt.more {w w' : World} {T a b c : Nat} {t : TS} (h : TabAt w T a b c t) (m : More w w') : TabAt w' T a b c t := ⟨blk_more m h.blk, h.mo.more m, h.ms.more m, h.mu.more m, h.ab, h.ac, h.bc⟩
theorem TabAt.away {w w' : World} {T a b c : Nat} {t : TS} {S : Nat → Prop} (h : TabAt w T a b c t) (m : Away S w w') (h0 : ¬ S T) (h1 : ¬ S a) (h2 : ¬ S b) (h3 : ¬ S c) : TabAt w' T a b c t := ⟨m.blk h.blk h0, h.mo.away m h1, h.ms.away m h2, h.mu.away m h3, h.ab, h.ac, h.bc⟩
theorem TabAt.putO {w w' : World} {T a b c : Nat} {t : TS} (h : TabAt w T a b c t) (m : Away (fun z => z = a) w w') {o : List (Int × Og)} (hm : MapAt w' a (Value.int .u32) kO o) : TabAt w' T a b c { t with o := o } :=
  ⟨m.blk h.blk (map_ne h.blk h.mo), hm, h.ms.away m (fun e => h.ab e.symm), h.mu.away m (fun e => h.ac e.symm), h.ab, h.ac, h.bc⟩
theorem TabAt.putS {w w' : World} {T a b c : Nat} {t : TS} (h : TabAt w T a b c t) (m : Away (fun z => z = b) w w') {s : List (Og × Int)} (hm : MapAt w' b kO (Value.int .u32) s) : TabAt w' T a b c { t with s := s } :=
  ⟨m.blk h.blk (map_ne h.blk h.ms), h.mo.away m h.ab, hm, h.mu.away m (fun e => h.bc e.symm), h.ab, h.ac, h.bc⟩
theorem TabAt.putU {w w' : World} {T a b c : Nat} {t : TS} (h : TabAt w T a b c t) (m : Away (fun z => z = c) w w') {u : List (Int × Sb)} (hm : MapAt w' c (Value.int .i64) vS u) : TabAt w' T a b c { t with u := u } :=
  ⟨m.blk h.blk (map_ne h.blk h.mu), h.mo.away m h.ac, h.ms.away m h.bc, hm, h.ab, h.ac, h.bc⟩
theorem zero_org (w : World) : (zeroValue 74).run Try.prog w = .ok (.agg #[.int .i64 0, .int .i64 0]) w := by kernel_rfl
theorem zero_u32 (w : World) : (zeroValue 79).run Try.prog w = .ok (.int .u32 0) w := by kernel_rfl
theorem zero_sub (w : World) : (zeroValue 152).run Try.prog w = .ok (.agg #[.int .u32 0, .bool false, .int .i64 0]) w := by kernel_rfl
theorem TabAt.lookO {w : World} {T a b c : Nat} {t : TS} (h : TabAt w T a b c t) (s : Int) :
    (Instr.lookup 145 (.map (some a)) (.int .u32 s) true).run Try.prog w = .ok (.tuple #[.agg #[.int .i64 ((mget t.o s).getD (0, 0)).1, .int .i64 ((mget t.o s).getD (0, 0)).2], .bool (mget t.o s).isSome]) w := by
  rw [h.mo.look keyU32 Try.underlying145 (zero_org w) s true]
  cases mget t.o s <;> rfl
theorem TabAt.lookS {w : World} {T a b c : Nat} {t : TS} (h : TabAt w T a b c t) (k : Og) :
    (Instr.lookup 146 (.map (some b)) (.agg #[.int .i64 k.1, .int .i64 k.2]) true).run Try.prog w = .ok (.tuple #[.int .u32 ((mget t.s k).getD 0), .bool (mget t.s k).isSome]) w := by
  have := h.ms.look keyOrg Try.underlying146 (zero_u32 w) k true
  unfold kO at this
  rw [this]
  cases mget t.s k <;> rfl
def sb0 : Sb := (0, false, 0)
theorem TabAt.lookU {w : World} {T a b c : Nat} {t : TS} (h : TabAt w T a b c t) (x : Int) :
    (Instr.lookup 147 (.map (some c)) (.int .i64 x) true).run Try.prog w = .ok (.tuple #[.agg #[.int .u32 ((mget t.u x).getD sb0).1, .bool ((mget t.u x).getD sb0).2.1, .int .i64 ((mget t.u x).getD sb0).2.2], .bool (mget t.u x).isSome]) w := by
  rw [h.mu.look keyI64 Try.underlying147 (zero_sub w) x true]
  cases mget t.u x <;> rfl
theorem TabAt.lookU1 {w : World} {T a b c : Nat} {t : TS} (h : TabAt w T a b c t) (x : Int) :
    (Instr.lookup 147 (.map (some c)) (.int .i64 x) false).run Try.prog w = .ok (.agg #[.int .u32 ((mget t.u x).getD sb0).1, .bool ((mget t.u x).getD sb0).2.1, .int .i64 ((mget t.u x).getD sb0).2.2]) w := by
  rw [h.mu.look keyI64 Try.underlying147 (zero_sub w) x false]
  cases mget t.u x <;> rfl
set_option maxHeartbeats 400000 in
theorem RTNew (w : World) : Calls Try.prog 36 #[] w fun e w' => ∃ T a b c, e = .returned (.pointer (some ⟨T, 0, none⟩)) ∧ w.heap.size ≤ T ∧ w.heap.size ≤ a ∧ w.heap.size ≤ b ∧ w.heap.size ≤ c ∧ TabAt w' T a b c ⟨[], [], []⟩ ∧ More w w' := by
  go_enter Try.func36, Try.ntmps36
  have hmm := @run_makeMap Try.prog
  go_wp2
  go_ret
  refine ⟨w.heap.size + 3, w.heap.size, w.heap.size + 1, w.heap.size + 2, by simp, by omega, by omega, by omega, by omega, ⟨blk_new2 (by simp), (MapAt.made w _ _).more (((More.alloc _ _).al _).al _), ?_, ?_, by omega, by omega, by omega⟩, (((More.alloc _ _).al _).al _).al _⟩
  · have := (MapAt.made (w.alloc (.map #[] 0)) kO (Value.int .u32)).more ((More.alloc _ (.map #[] 0)).al (.cells #[.map (some w.heap.size), .map (some (w.heap.size + 1)), .map (some (w.heap.size + 2))] 149))
    simpa using this
  · have := (MapAt.made ((w.alloc (.map #[] 0)).alloc (.map #[] 0)) (Value.int .i64) vS).more (More.alloc _ (.cells #[.map (some w.heap.size), .map (some (w.heap.size + 1)), .map (some (w.heap.size + 2))] 149))
    simpa using this
set_option maxHeartbeats 400000 in
theorem RTFind {w : World} {T a b c : Nat} {t : TS} (h : TabAt w T a b c t) (s : Int) :
    Calls Try.prog 39 #[.pointer (some ⟨T, 0, none⟩), .int .u32 s] w fun e w' => e = .returned (.tuple #[.agg #[.int .i64 ((mget t.o s).getD (0, 0)).1, .int .i64 ((mget t.o s).getD (0, 0)).2], .bool (mget t.o s).isSome]) ∧ More w w' := by
  have h1 := h.more (More.alloc w (.cells #[.int .i64 0, .int .i64 0] 74))
  have c0 := blk_cell h1.blk 0 (v := .map (some a)) rfl
  have q := h1.lookO s
  clear h1 h
  generalize (mget t.o s).getD (0, 0) = x at *
  go_enter Try.func39, Try.ntmps39
  go_wp2
  (refine bodyPost_ret (v := .tuple #[.agg #[.int .i64 x.1, .int .i64 x.2], .bool (mget t.o s).isSome]) ?rr1 rfl ?_; (case rr1 => (simp [results, Try.results39, go_sem])))
  exact ⟨rfl, (More.alloc _ _).al _⟩
set_option maxHeartbeats 400000 in
theorem RTSource {w : World} {T a b c : Nat} {t : TS} (h : TabAt w T a b c t) (k : Og) :
    Calls Try.prog 45 #[.pointer (some ⟨T, 0, none⟩), .agg #[.int .i64 k.1, .int .i64 k.2]] w fun e w' => e = .returned (.tuple #[.int .u32 ((mget t.s k).getD 0), .bool (mget t.s k).isSome]) ∧ More w w' := by
  have h1 := h.more (More.alloc w (.cells #[.int .i64 k.1, .int .i64 k.2] 74))
  have c0 := blk_cell h1.blk 1 (v := .map (some b)) rfl
  have q := fun n => (h1.more (More.drewN _ n)).lookS k
  clear h1 h
  go_enter Try.func45, Try.ntmps45
  go_wp2
  refine wp_region_quiet_lit (by kernel_rfl) (by kernel_rfl) ?_
  repeat (go_big_quiet_step (fail))
  refine wpQuiet_nil ?_
  intro _ hw'
  obtain ⟨nq, rfl⟩ := hw'
  go_wp2
  go_ret2
  exact ⟨rfl, (More.alloc _ _).dr _⟩
set_option maxHeartbeats 400000 in
theorem RTOf {w : World} {T a b c : Nat} {t : TS} (h : TabAt w T a b c t) (x : Int) :
    Calls Try.prog 43 #[.pointer (some ⟨T, 0, none⟩), .int .i64 x] w fun e w' => e = .returned (.tuple #[.int .i64 ((mget t.u x).getD sb0).2.2, .bool ((mget t.u x).getD sb0).2.1]) ∧ More w w' := by
  have c0 := blk_cell h.blk 2 (v := .map (some c)) rfl
  have q := h.lookU1 x
  clear h
  generalize (mget t.u x).getD sb0 = y at *
  go_enter Try.func43, Try.ntmps43
  go_wp2
  refine wp_region_quiet_lit (by kernel_rfl) (by kernel_rfl) ?_
  repeat (go_big_quiet_step (fail))
  refine wpQuiet_nil ?_
  intro _ hw'
  obtain ⟨nq, rfl⟩ := hw'
  go_wp2
  go_ret2
  exact ⟨rfl, (More.alloc _ _).dr _⟩
set_option maxHeartbeats 400000 in
theorem RTPublished {w : World} {T a b c : Nat} {t : TS} (h : TabAt w T a b c t) (p : Int) :
    Calls Try.prog 106 #[.pointer (some ⟨T, 0, none⟩), .int .i64 p] w fun e w' => e = .returned (.bool (mget t.s (p, 0)).isSome) ∧ w = w' := by
  have c0 := blk_cell h.blk 1 (v := .map (some b)) rfl
  have q := h.lookS (p, 0)
  simp only at q
  clear h
  go_enter Try.func106, Try.ntmps106
  go_wp2
  go_ret
  exact ⟨rfl, rfl⟩
theorem MayPub_yes (p : Int) (w : World) (h : 0 ≤ p ∧ p < 3) : Calls Try.prog 104 #[.int .i64 p] w fun e w' => e = .returned (.bool true) ∧ w = w' := by
  obtain ⟨h1, h2⟩ := h
  go_enter Try.func104, Try.ntmps104
  go_wp2
  go_ret
  exact ⟨ret_bool (by simp <;> omega), rfl⟩
theorem MayPub_no (p : Int) (w : World) (h : ¬ (0 ≤ p ∧ p < 3)) : Calls Try.prog 104 #[.int .i64 p] w fun e w' => e = .returned (.bool false) ∧ w = w' := by
  have hw : p < 0 ∨ (0 ≤ p ∧ 3 ≤ p) := by omega
  clear h
  rcases hw with h1 | ⟨h1, h2⟩
  · go_enter Try.func104, Try.ntmps104
    go_wp2
    go_ret
    exact ⟨ret_bool (by simp), rfl⟩
  · go_enter Try.func104, Try.ntmps104
    go_wp2
    go_ret
    exact ⟨ret_bool (by simp <;> omega), rfl⟩
theorem MaySub_yes (p : Int) (w : World) (h : 0 ≤ p ∧ p < 6) : Calls Try.prog 107 #[.int .i64 p] w fun e w' => e = .returned (.bool true) ∧ w = w' := by
  obtain ⟨h1, h2⟩ := h
  go_enter Try.func107, Try.ntmps107
  go_wp2
  go_ret
  exact ⟨ret_bool (by simp <;> omega), rfl⟩
theorem MaySub_no (p : Int) (w : World) (h : ¬ (0 ≤ p ∧ p < 6)) : Calls Try.prog 107 #[.int .i64 p] w fun e w' => e = .returned (.bool false) ∧ w = w' := by
  have hw : p < 0 ∨ (0 ≤ p ∧ 6 ≤ p) := by omega
  clear h
  rcases hw with h1 | ⟨h1, h2⟩
  · go_enter Try.func107, Try.ntmps107
    go_wp2
    go_ret
    exact ⟨ret_bool (by simp), rfl⟩
  · go_enter Try.func107, Try.ntmps107
    go_wp2
    go_ret
    exact ⟨ret_bool (by simp <;> omega), rfl⟩
end Go.Proofs.Ytmhkjamibcdcdaa
