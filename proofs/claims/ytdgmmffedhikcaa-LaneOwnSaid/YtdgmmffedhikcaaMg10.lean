/- Merged from my texts LaneJ, LaneK, LaneL. -/
import Derived.Test.YtdgmmffedhikcaaMg9
/- Contracts of packages stall and rewrite: Start. -/
namespace Go.Proofs.Ytdgmmffedhikcaa
set_option linter.unusedSimpArgs false
set_option linter.unusedVariables false
open Go.RowKit
set_option maxRecDepth 100000

theorem start_stall_bad (m : Int) (hm : m < 1 ∨ 10 < m) (w : World) : Calls Try.prog 34 #[.int .i64 m] w fun e w' => e = .returned (.tuple #[.agg #[.int .i64 0, .int .i64 0, .bool false], .int .i64 1]) ∧ More w w' := by
  go_enter Try.func34, Try.ntmps34
  go_wp2
  all_goals (refine bodyPost_ret (v := .tuple #[.agg #[.int .i64 0, .int .i64 0, .bool false], .int .i64 1]) (by simp [results, Try.results34, go_sem]) rfl ?_; exact ⟨rfl, (by repeat (first | exact More.refl _ | assumption | refine More.dr ?_ _ | refine More.al ?_ _ | refine More.st ?_ (by simp) _))⟩)
theorem start_stall (m : Int) (h1 : 1 ≤ m) (h2 : m ≤ 10) (w : World) : Calls Try.prog 34 #[.int .i64 m] w fun e w' => e = .returned (.tuple #[.agg #[.int .i64 m, .int .i64 0, .bool false], .int .i64 0]) ∧ More w w' := by
  go_enter Try.func34, Try.ntmps34
  go_wp2
  refine bodyPost_ret (v := .tuple #[.agg #[.int .i64 m, .int .i64 0, .bool false], .int .i64 0]) (by simp [results, Try.results34, go_sem]) rfl ?_
  exact ⟨rfl, (by repeat (first | exact More.refl _ | assumption | refine More.dr ?_ _ | refine More.al ?_ _ | refine More.st ?_ (by simp) _))⟩
theorem start_rewrite (s q t : Int) (w : World) : Calls Try.prog 35 #[.int .u32 s, .int .u16 q, .int .u32 t] w fun e w' => e = .returned (.agg #[.int .u32 s, .int .u16 q, .int .u32 t, .bool false, .int .u32 0, .int .u32 0]) ∧ More w w' := by
  go_enter Try.func35, Try.ntmps35
  go_wp2
  refine bodyPost_ret (v := .agg #[.int .u32 s, .int .u16 q, .int .u32 t, .bool false, .int .u32 0, .int .u32 0]) (by simp [results, Try.results35, go_sem]) rfl ?_
  exact ⟨rfl, (by repeat (first | exact More.refl _ | assumption | refine More.dr ?_ _ | refine More.al ?_ _ | refine More.st ?_ (by simp) _))⟩
end Go.Proofs.Ytdgmmffedhikcaa
/- Contracts of package stall: Offer. (printed by gen_laneK.py) -/
namespace Go.Proofs.Ytdgmmffedhikcaa
set_option linter.unusedSimpArgs false
set_option linter.unusedVariables false
open Go.RowKit
set_option maxRecDepth 100000

theorem stall_accepted (m r : Int) (g : Bool) (w : World) : Calls Try.prog 80 #[.agg #[.int .i64 m, .int .i64 r, .bool g]] w fun e w' => e = .returned (.agg #[.int .i64 m, .int .i64 0, .bool g]) ∧ More w w' := by
  go_enter Try.func80, Try.ntmps80
  go_wp2
  refine bodyPost_ret (v := .agg #[.int .i64 m, .int .i64 0, .bool g]) (by simp [results, Try.results80, go_sem]) rfl ?_
  exact ⟨rfl, (by repeat (first | exact More.refl _ | assumption | refine More.dr ?_ _ | refine More.al ?_ _ | refine More.st ?_ (by simp) _))⟩
theorem stall_refused (m r : Int) (g : Bool) (h0 : 0 ≤ r) (h1 : r ≤ 10) (w : World) : Calls Try.prog 79 #[.agg #[.int .i64 m, .int .i64 r, .bool g]] w fun e w' => e = .returned (.agg #[.int .i64 m, .int .i64 (r + 1), .bool (r + 1 == m)]) ∧ More w w' := by
  go_enter Try.func79, Try.ntmps79
  go_wp2
  refine bodyPost_ret (v := .agg #[.int .i64 m, .int .i64 (r + 1), .bool (r + 1 == m)]) (by simp [results, Try.results79, go_sem]) rfl ?_
  exact ⟨rfl, (by repeat (first | exact More.refl _ | assumption | refine More.dr ?_ _ | refine More.al ?_ _ | refine More.st ?_ (by simp) _))⟩
theorem offer_gone (m r : Int) (a : Bool) (w : World) : Calls Try.prog 52 #[.agg #[.int .i64 m, .int .i64 r, .bool true], .bool a] w fun e w' => e = .returned (.tuple #[.agg #[.int .i64 m, .int .i64 r, .bool true], .bool false]) ∧ More w w' := by
  go_enter Try.func52, Try.ntmps52
  go_wp2
  refine bodyPost_ret (v := .tuple #[.agg #[.int .i64 m, .int .i64 r, .bool true], .bool false]) (by simp [results, Try.results52, go_sem]) rfl ?_
  exact ⟨rfl, (by repeat (first | exact More.refl _ | assumption | refine More.dr ?_ _ | refine More.al ?_ _ | refine More.st ?_ (by simp) _))⟩
set_option maxHeartbeats 1000000 in
theorem offer_yes (m r : Int) (w : World) : Calls Try.prog 52 #[.agg #[.int .i64 m, .int .i64 r, .bool false], .bool true] w fun e w' => e = .returned (.tuple #[.agg #[.int .i64 m, .int .i64 0, .bool false], .bool false]) ∧ More w w' := by
  have H1 := Lib.hid (stall_accepted m r false)
  go_enter Try.func52, Try.ntmps52
  go_wp2_with (refine (H1.out _).mono ?_; rintro e w1 ⟨rfl, m1⟩; have B1 : Hid (w1.heap[w.heap.size + 1]? = some (.cells #[.int .i64 0, .int .i64 0, .bool false] 74 (0, 0))) := Lib.hid (blk_more m1 (blk_new2 (by simp))); have M1 : Hid (More w w1) := Lib.hid (((More.alloc _ _).al _).trans m1); clear m1)
  obtain ⟨W1, hW1⟩ : ∃ W1, w1.alloc (.cells #[.int .i64 m, .int .i64 0, .bool false] 74) = W1 := ⟨_, rfl⟩
  have M2 : Hid (More w W1) := Lib.hid (by rw [← hW1]; exact M1.out.al _)
  have B2 : Hid (W1.heap[w.heap.size + 1]? = some (.cells #[.int .i64 0, .int .i64 0, .bool false] 74 (0, 0))) := Lib.hid (by rw [← hW1]; exact blk_alloc B1.out _)
  have C2 : Hid (W1.heap[w1.heap.size]? = some (.cells #[.int .i64 m, .int .i64 0, .bool false] 74 (0, 0))) := Lib.hid (by rw [← hW1]; exact blk_new w1 _)
  rw [hW1]
  clear hW1 M1
  have HG : ∀ x : LaterS (fun b => b = w.heap.size + 1) W1, x.w'.rangeAt w1.heap.size 0 [.int .i64 m, .int .i64 0, .bool false] := fun x => lnRange (x.h.blk C2.out (by have := blk_lt B1.out; omega))
  have L2 : ∀ x : LaterS (fun b => b = w.heap.size + 1) W1, x.w'.cell? ⟨w1.heap.size, 2, none⟩ = some (.bool false) := fun x => x.cell (blk_lt C2.out) (by have := blk_lt B1.out; omega) (blk_cell C2.out 2 rfl)
  clear B1
  refine wp_region_numS (fun b => b = w.heap.size + 1) W1 4 [(0, false), (1, false), (2, false), (3, true), (4, true)] (by kernel_rfl) (by kernel_rfl) ?_
  refine num_load_mid rfl rfl (laterS_mk (by repeat (first | exact Away.refl _ _ | assumption | refine Away.drewN ?_ _ | refine Away.set ?_ (by first | rfl | exact Or.inl rfl | exact Or.inr rfl) _))) 74 (.tmp 7) rfl w1.heap.size 0 rfl [.int .i64 m, .int .i64 0, .bool false] _ (fun w' hx => by obtain ⟨x, rfl⟩ := hx; exact HG x) Try.underlying74 rfl (by kernel_rfl) ?_
  intro K hK
  go_simp
  refine hK _ ?_
  clear hK K
  iterate 2 (refine num_quiet rfl rfl (laterS_mk (by repeat (first | exact Away.refl _ _ | assumption | refine Away.drewN ?_ _ | refine Away.set ?_ (by first | rfl | exact Or.inl rfl | exact Or.inr rfl) _))) ?_; intro K hK; go_big_quiet_op; go_big_quiet_on)
  refine num_next rfl rfl ?_
  intro K hK
  refine loud_store_all 74 (.tmp 4) (.tmp 18) rfl (w.heap.size + 1) 74 _ #[.int .i64 m, .int .i64 0, .bool false] rfl rfl (blk_drewN B2.out 1) (by kernel_rfl) rfl (all_oneCell_toArray (by simp [Value.oneCell'])) ?_
  refine ⟨laterS_mk (((Away.refl (fun b => b = w.heap.size + 1) W1).drewN 1).row (g := w.heap.size + 1) rfl _), ?_⟩
  go_simp
  refine hK _ _ ?_
  clear hK K
  (refine num_end rfl rfl (by decide) ?_; intro K hK; unfold loud; go_simp)
  refine hK _ _ ?_
  clear hK K
  refine num_nil ?_
  go_wp2
  refine bodyPost_ret (v := .tuple #[.agg #[.int .i64 m, .int .i64 0, .bool false], .bool false]) (lnRes2 Try.results52 _ _ (w.heap.size + 1) 74 #[.int .i64 m, .int .i64 0, .bool false] _ _ rfl rfl (lnBlk (blk_drewN B2.out 1) _) Try.underlying74 rfl (by kernel_rfl)) rfl ?_
  exact ⟨rfl, (lnAway _ _ _).to_more (M2.out.dr 1) (fun k e => by rw [e]; exact Nat.le_succ _)⟩
set_option maxHeartbeats 1000000 in
theorem offer_no (m r : Int) (h0 : 0 ≤ r) (h1 : r ≤ 10) (q : Int) (b : Bool) (hq : r + 1 = q) (hb : (q == m) = b) (w : World) : Calls Try.prog 52 #[.agg #[.int .i64 m, .int .i64 r, .bool false], .bool false] w fun e w' => e = .returned (.tuple #[.agg #[.int .i64 m, .int .i64 q, .bool b], .bool b]) ∧ More w w' := by
  have H1 := stall_refused m r false h0 h1
  rw [hq, hb] at H1
  have H1 := Lib.hid H1
  clear hq hb
  go_enter Try.func52, Try.ntmps52
  go_wp2_with (refine (H1.out _).mono ?_; rintro e w1 ⟨rfl, m1⟩; have B1 : Hid (w1.heap[w.heap.size + 1]? = some (.cells #[.int .i64 0, .int .i64 0, .bool false] 74 (0, 0))) := Lib.hid (blk_more m1 (blk_new2 (by simp))); have M1 : Hid (More w w1) := Lib.hid (((More.alloc _ _).al _).trans m1); clear m1)
  obtain ⟨W1, hW1⟩ : ∃ W1, w1.alloc (.cells #[.int .i64 m, .int .i64 q, .bool b] 74) = W1 := ⟨_, rfl⟩
  have M2 : Hid (More w W1) := Lib.hid (by rw [← hW1]; exact M1.out.al _)
  have B2 : Hid (W1.heap[w.heap.size + 1]? = some (.cells #[.int .i64 0, .int .i64 0, .bool false] 74 (0, 0))) := Lib.hid (by rw [← hW1]; exact blk_alloc B1.out _)
  have C2 : Hid (W1.heap[w1.heap.size]? = some (.cells #[.int .i64 m, .int .i64 q, .bool b] 74 (0, 0))) := Lib.hid (by rw [← hW1]; exact blk_new w1 _)
  rw [hW1]
  clear hW1 M1
  have HG : ∀ x : LaterS (fun b => b = w.heap.size + 1) W1, x.w'.rangeAt w1.heap.size 0 [.int .i64 m, .int .i64 q, .bool b] := fun x => lnRange (x.h.blk C2.out (by have := blk_lt B1.out; omega))
  have L2 : ∀ x : LaterS (fun b => b = w.heap.size + 1) W1, x.w'.cell? ⟨w1.heap.size, 2, none⟩ = some (.bool b) := fun x => x.cell (blk_lt C2.out) (by have := blk_lt B1.out; omega) (blk_cell C2.out 2 rfl)
  clear B1
  refine wp_region_numS (fun b => b = w.heap.size + 1) W1 4 [(0, false), (1, false), (2, false), (3, true), (4, true)] (by kernel_rfl) (by kernel_rfl) ?_
  refine num_load_mid rfl rfl (laterS_mk (by repeat (first | exact Away.refl _ _ | assumption | refine Away.drewN ?_ _ | refine Away.set ?_ (by first | rfl | exact Or.inl rfl | exact Or.inr rfl) _))) 74 (.tmp 7) rfl w1.heap.size 0 rfl [.int .i64 m, .int .i64 q, .bool b] _ (fun w' hx => by obtain ⟨x, rfl⟩ := hx; exact HG x) Try.underlying74 rfl (by kernel_rfl) ?_
  intro K hK
  go_simp
  refine hK _ ?_
  clear hK K
  iterate 2 (refine num_quiet rfl rfl (laterS_mk (by repeat (first | exact Away.refl _ _ | assumption | refine Away.drewN ?_ _ | refine Away.set ?_ (by first | rfl | exact Or.inl rfl | exact Or.inr rfl) _))) ?_; intro K hK; go_big_quiet_op; go_big_quiet_on)
  refine num_next rfl rfl ?_
  intro K hK
  refine loud_store_all 74 (.tmp 4) (.tmp 18) rfl (w.heap.size + 1) 74 _ #[.int .i64 m, .int .i64 q, .bool b] rfl rfl (blk_drewN B2.out 1) (by kernel_rfl) rfl (all_oneCell_toArray (by simp [Value.oneCell'])) ?_
  refine ⟨laterS_mk (((Away.refl (fun b => b = w.heap.size + 1) W1).drewN 1).row (g := w.heap.size + 1) rfl _), ?_⟩
  go_simp
  refine hK _ _ ?_
  clear hK K
  (refine num_end rfl rfl (by decide) ?_; intro K hK; unfold loud; go_simp)
  refine hK _ _ ?_
  clear hK K
  refine num_nil ?_
  go_wp2
  refine bodyPost_ret (v := .tuple #[.agg #[.int .i64 m, .int .i64 q, .bool b], .bool b]) (lnRes2 Try.results52 _ _ (w.heap.size + 1) 74 #[.int .i64 m, .int .i64 q, .bool b] _ _ rfl rfl (lnBlk (blk_drewN B2.out 1) _) Try.underlying74 rfl (by kernel_rfl)) rfl ?_
  exact ⟨rfl, (lnAway _ _ _).to_more (M2.out.dr 1) (fun k e => by rw [e]; exact Nat.le_succ _)⟩
end Go.Proofs.Ytdgmmffedhikcaa
/- Contracts of package rewrite: tell. -/
namespace Go.Proofs.Ytdgmmffedhikcaa
set_option linter.unusedSimpArgs false
set_option linter.unusedVariables false
open Go.RowKit
set_option maxRecDepth 100000

theorem lnResCC {P : Program} {fn : Func} {p u : Tmp} {ty uy : TypeId} (h : fn.results = #[.cell p ty, .cell u uy]) (tmps : Array Value) (w : World) (g g' : Nat) (t t' : TypeId) (cs cs' : Array Value) (d d' : TypeDesc)
    (hp : tmps.getD p undef = .pointer (some ⟨g, 0, none⟩)) (hq : tmps.getD u undef = .pointer (some ⟨g', 0, none⟩)) (hg : w.heap[g]? = some (.cells cs t (0, 0))) (hg' : w.heap[g']? = some (.cells cs' t' (0, 0)))
    (hu : P.underlying ty = some d) (hd : (match d with | .struct _ | .array _ _ => true | _ => false) = true) (hi : (P.info? ty).map (·.size) = some cs.size)
    (hu' : P.underlying uy = some d') (hd' : (match d' with | .struct _ | .array _ _ => true | _ => false) = true) (hi' : (P.info? uy).map (·.size) = some cs'.size) :
    (results fn tmps).run P w = .ok (.tuple #[.agg cs, .agg cs']) w := by
  have hp' : tmps[p]?.getD undef = .pointer (some ⟨g, 0, none⟩) := by simpa using hp
  have hq' : tmps[u]?.getD undef = .pointer (some ⟨g', 0, none⟩) := by simpa using hq
  simp [results, h, hp', hq', asAddr, run_loadVar_row w g t ty cs (0, 0) d hg hu hd hi, run_loadVar_row w g' t' uy cs' (0, 0) d' hg' hu' hd' hi']
/-- A state of rewriting. -/
structure RwS where
  src : Int
  sq : Int
  st : Int
  any : Bool
  last : Int
  shift : Int
def RwS.v (s : RwS) : Value := .agg #[.int .u32 s.src, .int .u16 s.sq, .int .u32 s.st, .bool s.any, .int .u32 s.last, .int .u32 s.shift]
/-- The shift of the stamp t. -/
def shL (s : RwS) (t : Int) (first : Bool) : Int := if s.any then (if first then (s.last + 3000 - t) % 4294967296 else s.shift) else (s.st - t) % 4294967296
set_option maxHeartbeats 2000000 in
theorem tell_any (src sq st la sh : Int) (any first : Bool) (mr : Bool) (ty q t so : Int) (w : World) (X : Int) (hX : shL ⟨src, sq, st, any, la, sh⟩ t first = X) :
    Calls Try.prog 71 #[.agg #[.int .u32 src, .int .u16 sq, .int .u32 st, .bool any, .int .u32 la, .int .u32 sh], .agg #[.bool mr, .int .u8 ty, .int .u16 q, .int .u32 t, .int .u32 so], .bool first] w
      fun e w' => e = .returned (.agg #[.bool mr, .int .u8 ty, .int .u16 sq, .int .u32 ((t + X) % 4294967296), .int .u32 src, .int .u32 X]) ∧ More w w' := by
  cases any with
  | false =>
    obtain rfl : X = (st - t) % 4294967296 := by rw [← hX]; rfl
    clear hX
    have e1 : (t + (st - t) % 4294967296) % 4294967296 = (t + (st - t)) % 4294967296 := by omega
    rw [e1]
    clear e1
    go_enter Try.func71, Try.ntmps71
    go_wp2
    refine bodyPost_ret (v := .agg #[.bool mr, .int .u8 ty, .int .u16 sq, .int .u32 ((t + (st - t)) % 4294967296), .int .u32 src, .int .u32 ((st - t) % 4294967296)]) (by simp [results, Try.results71, go_sem]) rfl ?_
    exact ⟨rfl, (by repeat (first | exact More.refl _ | assumption | refine More.dr ?_ _ | refine More.al ?_ _ | refine More.st ?_ (by simp) _))⟩
  | true =>
   cases first with
   | true =>
    obtain rfl : X = (la + 3000 - t) % 4294967296 := by rw [← hX]; rfl
    clear hX
    have e1 : (t + (la + 3000 - t) % 4294967296) % 4294967296 = (t + (la + 3000 - t)) % 4294967296 := by omega
    rw [e1]
    clear e1
    go_enter Try.func71, Try.ntmps71
    go_wp2
    refine bodyPost_ret (v := .agg #[.bool mr, .int .u8 ty, .int .u16 sq, .int .u32 ((t + (la + 3000 - t)) % 4294967296), .int .u32 src, .int .u32 ((la + 3000 - t) % 4294967296)]) (by simp [results, Try.results71, go_sem]) rfl ?_
    exact ⟨rfl, (by repeat (first | exact More.refl _ | assumption | refine More.dr ?_ _ | refine More.al ?_ _ | refine More.st ?_ (by simp) _))⟩
   | false =>
    obtain rfl : X = sh := by rw [← hX]; rfl
    clear hX
    go_enter Try.func71, Try.ntmps71
    go_wp2
    refine bodyPost_ret (v := .agg #[.bool mr, .int .u8 ty, .int .u16 sq, .int .u32 ((t + X) % 4294967296), .int .u32 src, .int .u32 X]) (by simp [results, Try.results71, go_sem]) rfl ?_
    exact ⟨rfl, (by repeat (first | exact More.refl _ | assumption | refine More.dr ?_ _ | refine More.al ?_ _ | refine More.st ?_ (by simp) _))⟩
set_option maxHeartbeats 2000000 in
theorem step_any (src sq st la sh : Int) (any first : Bool) (mr : Bool) (ty q t so : Int) (w : World) (X : Int) (hX : shL ⟨src, sq, st, any, la, sh⟩ t first = X) (Z : Int) (hZ : (t + X) % 4294967296 = Z) (Q : Int) (hQ : (sq + 1) % 65536 = Q) :
    Calls Try.prog 47 #[.agg #[.int .u32 src, .int .u16 sq, .int .u32 st, .bool any, .int .u32 la, .int .u32 sh], .agg #[.bool mr, .int .u8 ty, .int .u16 q, .int .u32 t, .int .u32 so], .bool first] w
      fun e w' => e = .returned (.tuple #[.agg #[.int .u32 src, .int .u16 Q, .int .u32 st, .bool true, .int .u32 Z, .int .u32 X], .agg #[.bool mr, .int .u8 ty, .int .u16 sq, .int .u32 Z, .int .u32 src]]) ∧ More w w' := by
  have H1 := fun w => tell_any src sq st la sh any first mr ty q t so w X hX
  rw [hZ] at H1
  have H1 := Lib.hid H1
  have HQ := Lib.hid hQ
  clear hX hZ hQ
  go_enter Try.func47, Try.ntmps47
  go_wp2_with (refine (H1.out _).mono ?_; rintro e w1 ⟨rfl, m1⟩; have S1 : Hid (w1.heap[w.heap.size]? = some (.cells #[.int .u32 src, .int .u16 sq, .int .u32 st, .bool any, .int .u32 la, .int .u32 sh] 72 (0, 0))) := Lib.hid (blk_more m1 (by repeat (first | exact blk_new2 (by simp) | refine blk_alloc ?_ _))); have B1 : Hid (w1.heap[w.heap.size + 2]? = some (.cells #[.int .u32 0, .int .u16 0, .int .u32 0, .bool false, .int .u32 0, .int .u32 0] 72 (0, 0))) := Lib.hid (blk_more m1 (by repeat (first | exact blk_new2 (by simp) | refine blk_alloc ?_ _))); have C1 : Hid (w1.heap[w.heap.size + 3]? = some (.cells #[.bool false, .int .u8 0, .int .u16 0, .int .u32 0, .int .u32 0] 35 (0, 0))) := Lib.hid (blk_more m1 (by repeat (first | exact blk_new2 (by simp) | refine blk_alloc ?_ _))); have M1 : Hid (More w w1) := Lib.hid ((((More.refl w).al _ |>.al _ |>.al _ |>.al _)).trans m1); clear m1; have hlt : w.heap.size < w1.heap.size := blk_lt S1.out; have r1 : w1.cell? ⟨w.heap.size, 1, none⟩ = some (.int .u16 sq) := blk_cell S1.out 1 rfl; have r3 : w1.cell? ⟨w.heap.size, 3, none⟩ = some (.bool any) := blk_cell S1.out 3 rfl; have r4 : w1.cell? ⟨w.heap.size, 4, none⟩ = some (.int .u32 la) := blk_cell S1.out 4 rfl; have r5 : w1.cell? ⟨w.heap.size, 5, none⟩ = some (.int .u32 sh) := blk_cell S1.out 5 rfl; have fr1 : w1.frozen? ⟨w.heap.size, 1, none⟩ = false := blk_free S1.out 1; have fr3 : w1.frozen? ⟨w.heap.size, 3, none⟩ = false := blk_free S1.out 3; have fr4 : w1.frozen? ⟨w.heap.size, 4, none⟩ = false := blk_free S1.out 4; have fr5 : w1.frozen? ⟨w.heap.size, 5, none⟩ = false := blk_free S1.out 5)
  have hw : IntKind.u16.wrap (sq + 1) = Q := HQ.out
  rw [hw]
  obtain ⟨W1, hW1⟩ : ∃ W1, (((((w1.setCell ⟨w.heap.size, 1, none⟩ (.int .u16 Q)).setCell ⟨w.heap.size, 3, none⟩ (.bool true)).setCell ⟨w.heap.size, 4, none⟩ (.int .u32 Z)).setCell ⟨w.heap.size, 5, none⟩ (.int .u32 X)).alloc (.cells #[.bool mr, .int .u8 ty, .int .u16 sq, .int .u32 Z, .int .u32 src, .int .u32 X] 157)) = W1 := ⟨_, rfl⟩
  have M2 : Hid (More w W1) := Lib.hid (by rw [← hW1]; exact ((((M1.out.st (Nat.le_refl _) _).st (Nat.le_refl _) _).st (Nat.le_refl _) _).st (Nat.le_refl _) _).al _)
  have S2 : Hid (W1.heap[w.heap.size]? = some (.cells #[.int .u32 src, .int .u16 Q, .int .u32 st, .bool true, .int .u32 Z, .int .u32 X] 72 (0, 0))) := Lib.hid (by rw [← hW1]; exact blk_alloc (blk_eq (blk_set (blk_set (blk_set (blk_set S1.out 1 _) 3 _) 4 _) 5 _) rfl) _)
  have B2 : Hid (W1.heap[w.heap.size + 2]? = some (.cells #[.int .u32 0, .int .u16 0, .int .u32 0, .bool false, .int .u32 0, .int .u32 0] 72 (0, 0))) := Lib.hid (by rw [← hW1]; exact blk_alloc (blk_other (blk_other (blk_other (blk_other B1.out ⟨w.heap.size, 1, none⟩ _ (by show w.heap.size + 2 ≠ w.heap.size; omega)) ⟨w.heap.size, 3, none⟩ _ (by show w.heap.size + 2 ≠ w.heap.size; omega)) ⟨w.heap.size, 4, none⟩ _ (by show w.heap.size + 2 ≠ w.heap.size; omega)) ⟨w.heap.size, 5, none⟩ _ (by show w.heap.size + 2 ≠ w.heap.size; omega)) _)
  have C2 : Hid (W1.heap[w.heap.size + 3]? = some (.cells #[.bool false, .int .u8 0, .int .u16 0, .int .u32 0, .int .u32 0] 35 (0, 0))) := Lib.hid (by rw [← hW1]; exact blk_alloc (blk_other (blk_other (blk_other (blk_other C1.out ⟨w.heap.size, 1, none⟩ _ (by show w.heap.size + 3 ≠ w.heap.size; omega)) ⟨w.heap.size, 3, none⟩ _ (by show w.heap.size + 3 ≠ w.heap.size; omega)) ⟨w.heap.size, 4, none⟩ _ (by show w.heap.size + 3 ≠ w.heap.size; omega)) ⟨w.heap.size, 5, none⟩ _ (by show w.heap.size + 3 ≠ w.heap.size; omega)) _)
  have D2 : Hid (W1.heap[w1.heap.size]? = some (.cells #[.bool mr, .int .u8 ty, .int .u16 sq, .int .u32 Z, .int .u32 src, .int .u32 X] 157 (0, 0))) := Lib.hid (by rw [← hW1]; exact blk_new2 (by simp))
  have hlt3 : w.heap.size + 3 < w1.heap.size := blk_lt C1.out
  rw [hW1]
  clear hW1 M1 S1 B1 C1 r1 r3 r4 r5 fr1 fr3 fr4 fr5 hw HQ
  have HG : ∀ x : LaterS (fun b => b = w.heap.size + 2 ∨ b = w.heap.size + 3) W1, x.w'.rangeAt w.heap.size 0 [.int .u32 src, .int .u16 Q, .int .u32 st, .bool true, .int .u32 Z, .int .u32 X] := fun x => lnRange (x.h.blk S2.out (by omega))
  have HH : ∀ x : LaterS (fun b => b = w.heap.size + 2 ∨ b = w.heap.size + 3) W1, x.w'.rangeAt w1.heap.size 0 [.bool mr, .int .u8 ty, .int .u16 sq, .int .u32 Z, .int .u32 src] := fun x => by
    have := lnRange (cs := [.bool mr, .int .u8 ty, .int .u16 sq, .int .u32 Z, .int .u32 src, .int .u32 X]) (x.h.blk D2.out (by omega))
    intro j v hv
    refine this j v ?_
    have hj := (List.getElem?_eq_some_iff.1 hv).1
    rw [← hv]
    exact List.getElem?_append_left (l₂ := [.int .u32 X]) hj
  refine wp_region_numS (fun b => b = w.heap.size + 2 ∨ b = w.heap.size + 3) W1 4 [(0, false), (1, false), (2, false), (3, true), (4, true)] (by kernel_rfl) (by kernel_rfl) ?_
  refine num_load_mid rfl rfl (laterS_mk (by repeat (first | exact Away.refl _ _ | assumption | refine Away.drewN ?_ _ | refine Away.set ?_ (by first | rfl | exact Or.inl rfl | exact Or.inr rfl) _))) 72 (.tmp 3) rfl w.heap.size 0 rfl [.int .u32 src, .int .u16 Q, .int .u32 st, .bool true, .int .u32 Z, .int .u32 X] _ (fun w' hx => by obtain ⟨x, rfl⟩ := hx; exact HG x) Try.underlying72 rfl (by kernel_rfl) ?_
  intro K hK
  go_simp
  refine hK _ ?_
  clear hK K
  iterate 1 (refine num_quiet rfl rfl (laterS_mk (by repeat (first | exact Away.refl _ _ | assumption | refine Away.drewN ?_ _ | refine Away.set ?_ (by first | rfl | exact Or.inl rfl | exact Or.inr rfl) _))) ?_; intro K hK; go_big_quiet_op; go_big_quiet_on)
  refine num_load_mid rfl rfl (laterS_mk (by repeat (first | exact Away.refl _ _ | assumption | refine Away.drewN ?_ _ | refine Away.set ?_ (by first | rfl | exact Or.inl rfl | exact Or.inr rfl) _))) 35 (.tmp 26) rfl w1.heap.size 0 rfl [.bool mr, .int .u8 ty, .int .u16 sq, .int .u32 Z, .int .u32 src] _ (fun w' hx => by obtain ⟨x, rfl⟩ := hx; exact HH x) Try.underlying35 rfl (by kernel_rfl) ?_
  intro K hK
  go_simp
  refine hK _ ?_
  clear hK K
  refine num_next rfl rfl ?_
  intro K hK
  refine loud_store_all 72 (.tmp 6) (.tmp 25) rfl (w.heap.size + 2) 72 _ #[.int .u32 src, .int .u16 Q, .int .u32 st, .bool true, .int .u32 Z, .int .u32 X] rfl rfl (blk_drewN B2.out 1) (by kernel_rfl) rfl (all_oneCell_toArray (by simp [Value.oneCell'])) ?_
  refine ⟨laterS_mk (((Away.refl (fun b => b = w.heap.size + 2 ∨ b = w.heap.size + 3) W1).drewN 1).row (g := w.heap.size + 2) (Or.inl rfl) _), ?_⟩
  go_simp
  refine hK _ _ ?_
  clear hK K
  refine num_end rfl rfl (by decide) ?_
  intro K hK
  refine loud_store_all 35 (.tmp 7) (.tmp 27) rfl (w.heap.size + 3) 35 _ #[.bool mr, .int .u8 ty, .int .u16 sq, .int .u32 Z, .int .u32 src] rfl rfl (lnOther (blk_drewN C2.out 1) _ (by omega)) (by kernel_rfl) rfl (all_oneCell_toArray (by simp [Value.oneCell'])) ?_
  refine ⟨trivial, ?_⟩
  go_simp
  refine hK _ _ ?_
  clear hK K
  refine num_nil ?_
  go_wp2
  refine bodyPost_ret (v := .tuple #[.agg #[.int .u32 src, .int .u16 Q, .int .u32 st, .bool true, .int .u32 Z, .int .u32 X], .agg #[.bool mr, .int .u8 ty, .int .u16 sq, .int .u32 Z, .int .u32 src]]) (lnResCC Try.results47 _ _ (w.heap.size + 2) (w.heap.size + 3) 72 35 #[.int .u32 src, .int .u16 Q, .int .u32 st, .bool true, .int .u32 Z, .int .u32 X] #[.bool mr, .int .u8 ty, .int .u16 sq, .int .u32 Z, .int .u32 src] _ _ rfl rfl (lnOther (lnBlk (blk_drewN B2.out 1) _) _ (by omega)) (lnBlk (lnOther (blk_drewN C2.out 1) _ (by omega)) _) Try.underlying72 rfl (by kernel_rfl) Try.underlying35 rfl (by kernel_rfl)) rfl ?_
  exact ⟨rfl, (lnAway _ _ _).to_more ((lnAway _ _ _).to_more (M2.out.dr 1) (fun k e => by rw [e]; exact Nat.le_add_right _ _)) (fun k e => by rw [e]; exact Nat.le_add_right _ _)⟩
end Go.Proofs.Ytdgmmffedhikcaa
