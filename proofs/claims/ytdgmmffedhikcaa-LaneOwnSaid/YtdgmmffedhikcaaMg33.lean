/- Merged from my texts LaneOx. -/
import Derived.Test.YtdgmmffedhikcaaMg30
import Derived.Test.YtdgmmffedhikcaaMg32
import Derived.Deep.Cut
import Derived.Deep.CutRange
import Derived.Deep.CutBlock
/- The law LaneOwn of lane, walked. (printed by gen_laneOx.py) -/
namespace Go.Proofs.Ytdgmmffedhikcaa
set_option linter.unusedSimpArgs false
set_option linter.unusedVariables false
open Go.RowKit
set_option maxRecDepth 100000

/-! What becomes of the one packet. -/
def itO (p : Pk) : ItS := ⟨0, 0, true, p⟩
def ownQ (p : Pk) (src sq st : Int) : Pk := tellP ⟨src, sq, st, false, 0, 0⟩ p true
theorem own_want (n : Nat) (mo src sq st : Int) : wantP (newL n mo src sq st) 0 = ({ newL n mo src sq st with wanted := true, cur := -1, tgt := 0 }, 0) := rfl
theorem own_put (n : Nat) (mo src sq st : Int) (p : Pk) (h1 : 1 ≤ n) (hr : rightH p = true) : (putP { newL n mo src sq st with wanted := true, cur := -1, tgt := 0 } (itO p)).1 = { newL n mo src sq st with wanted := true, cur := -1, tgt := 0, A := [itO p] } := by
  have ht : (thereL (itO p).layer && rightH (itO p).pk) = true := by rw [show rightH (itO p).pk = true from hr]; rfl
  unfold putP
  rw [ht]
  simp [newL, putL', show 0 < n from h1]
theorem own_choose (n : Nat) (mo src sq st : Int) (p : Pk) (h1 : 1 ≤ n) : (chooseP { newL n mo src sq st with wanted := true, cur := -1, tgt := 0, A := [itO p] }).1 = { newL n mo src sq st with wanted := true, cur := 0, tgt := 0, A := [], B := [(itO p, true)] } := by
  have hn : ¬ 0 = n := by omega
  simp [chooseP, mayP, newL, takeP, itO, hn]
theorem own_rewrite (n : Nat) (mo src sq st : Int) (p : Pk) (h1 : 1 ≤ n) : (rewriteP { newL n mo src sq st with wanted := true, cur := 0, tgt := 0, A := [], B := [(itO p, true)] }).1 = { newL n mo src sq st with wanted := true, cur := 0, tgt := 0, A := [], B := [], rw := stepP ⟨src, sq, st, false, 0, 0⟩ p true, C := [(0, pkB (ownQ p src sq st))] } := by
  simp [rewriteP, newL, readyP, itO, ownQ, show 0 < n from h1]
theorem own_write (n : Nat) (mo src sq st : Int) (rw : RwS) (b : List Int) : (writeP { newL n mo src sq st with wanted := true, cur := 0, tgt := 0, A := [], B := [], rw := rw, C := [(0, b)] } true).1.W = [(0, b)] := by
  simp [writeP, newL, offerP]
theorem own_q (p : Pk) (src sq st : Int) (hr : rightH p = true) (hk : PkOK p) (hs : U32 src) (hq : U16 sq) : rightH (ownQ p src sq st) = true ∧ PkOK (ownQ p src sq st) ∧ (ownQ p src sq st).pl = p.pl := by
  refine ⟨hr, ⟨hk.ty, hq, ?_, hs, hk.ss, hk.pr, hk.ex, hk.pl⟩, rfl⟩
  show U32 ((p.st + _) % 4294967296)
  unfold U32
  omega
/-- One thing that was written, in rows of the caller's own. -/
theorem ro_one {w : World} {base : Nat} {D : Nat → Prop} {v : Value} {o : Int × List Int} (h : RowP 2 (ROn base) D w base 78 v [o]) :
    ∃ G cap ou cu, v = .slice (some ⟨G, 0, none⟩) 1 cap ∧ base ≤ G ∧ G < w.heap.size ∧ w.cell? ⟨G, 0 * 2 + 1, none⟩ = some (.slice ou o.2.length cu) ∧ SlI .u8 w (.slice ou o.2.length cu) o.2 ∧ w.ownsRow base 5 1 (.slice ou o.2.length cu) o.2.length (o.2.map (Value.int .u8)) ∧ ∀ b, (Value.slice ou o.2.length cu).ownBlock = some b → b ≠ G := by
  obtain ⟨⟨xs, o1, r⟩, _⟩ := h
  obtain ⟨u, e, hs, _, _, _, ho⟩ := (r 0 (by simp)).read
  rcases o1.2 with ⟨_, h0⟩ | ⟨G, cap, cur, rfl, hb, hg, hrest⟩
  · simp at h0
  · have e1 := congrArg (fun l : List Value => l[1]?) e
    simp at e1
    obtain ⟨ou, cu, rfl, _⟩ := id hs
    refine ⟨G, cap, ou, cu, by simp, hb, lt_of_block hg, ?_, hs, ho, fun b hbo eb => ?_⟩
    · rw [o1.cellAt _ (by simp)]
      exact e1
    · subst eb
      have ho2 : w.ownsRow base 5 1 (.slice ou o.2.length cu) o.2.length (o.2.map (Value.int .u8)) := ho
      rcases ho2.2 with ⟨e3, _⟩ | ⟨g2, c2, cur2, e3, _, hg2, _⟩
      · rw [e3] at hbo
        cases hbo
      · rw [e3] at hbo
        injection hbo with e4
        simp only at e4
        subst e4
        rw [hg] at hg2
        injection hg2 with e5
        injection e5 with _ e6
        exact absurd e6 (by decide)
theorem own_in {w : World} {base e n m : Nat} {v : Value} {xs : List Value} (h : w.ownsRow base e n v m xs) (hb : base < w.heap.size) : ∃ g, (∀ b, v.ownBlock = some b → b = g) ∧ base ≤ g ∧ g < w.heap.size := by
  rcases h.2 with ⟨rfl, _⟩ | ⟨g, cap, cur, rfl, h1, h2, _⟩
  · exact ⟨base, (fun b hb => by cases hb), Nat.le_refl _, hb⟩
  · exact ⟨g, (fun b hb => by injection hb with e; exact e.symm), h1, lt_of_block h2⟩
theorem own_at {w : World} {base e m : Nat} {v : Value} {l : List Int} (h : w.ownsRow base e 1 v m (l.map (Value.int .u8))) (hm : m = l.length) (j : Nat) (hj : j < l.length) : ∃ g cap, v = .slice (some ⟨g, 0, none⟩) m cap ∧ w.cell? ⟨g, j, none⟩ = some (.int .u8 (l.getD j 0)) ∧ w.frozen? ⟨g, j, none⟩ = false ∧ ∀ y, (w.setCell ⟨g, j, none⟩ (.int .u8 y)).ownsRow base e 1 v (l.set j y).length ((l.set j y).map (Value.int .u8)) := by
  subst hm
  rcases id h.2 with ⟨_, h0⟩ | ⟨g, cap, cur, rfl, h1, h2, _⟩
  · omega
  · refine ⟨g, cap, rfl, ?_, h.frozenAt _, fun y => ?_⟩
    · rw [h.cellAt _ (by omega), List.getElem?_map, List.getD_eq_getElem?_getD, List.getElem?_eq_getElem hj]
      rfl
    · obtain ⟨a, _⟩ := h.stored j (.int .u8 y)
      rw [List.map_set, List.length_set]
      exact a
theorem own_sl {w : World} {base e m : Nat} {v : Value} {l : List Int} (h : w.ownsRow base e 1 v m (l.map (Value.int .u8))) (hm : m = l.length) (hl : l.length ≤ 100000) : SlI .u8 w v l := by
  subst hm
  exact SlI.of_owns h (by omega)
theorem LnH.adds {w0 w w' : World} {L : Nat} {s : LnS} {F Fn : List Nat} (h : LnH w0 w L s F) (m : More w w') (hb : ∀ b ∈ Fn, w.heap.size ≤ b ∧ b < w'.heap.size) : LnH w0 w' L s (Fn ++ F) := by
  have h' := h.on m
  obtain ⟨N, l, h1, h2, h3⟩ := h
  refine ⟨N, l.on m, h1, fun c hc => ?_, h3.trans m⟩
  rcases List.mem_append.1 hc with hc | hc
  · exact ⟨fun e => by have := l.sub _ e; have := hb c hc; omega, Nat.le_trans h3.size (hb c hc).1, (hb c hc).2⟩
  · exact ⟨(h2 c hc).1, (h2 c hc).2.1, Nat.lt_of_lt_of_le (h2 c hc).2.2 m.size⟩
def refused (p : Pk) : Prop := 40 < p.ss.length ∨ 1000 < p.ex.length ∨ 1000 < p.pl.length ∨ rightH p = false
set_option maxHeartbeats 2000000 in
theorem LaneOwn_bad (m mo src sq st : Int) (p : Pk) (os oe ol : Option Addr) (ks ke kl : Nat) (w : World) (h : cfgB m mo = false) :
    Calls Try.prog 8 #[.agg #[.int .i64 m, .int .i64 mo, .int .u32 src, .int .u16 sq, .int .u32 st], .agg #[.bool p.mr, .int .u8 p.ty, .int .u16 p.sq, .int .u32 p.st, .int .u32 p.sc, .slice os p.ss.length ks, .bool p.has, .int .u16 p.pr, .slice oe p.ex.length ke, .slice ol p.pl.length kl]] w fun e w' => e = .returned (.bool true) ∧ More w w' := by
  have HB := Lib.hid (new_bad m mo src sq st h)
  clear h
  go_enter Try.func8, Try.ntmps8
  go_wp2_with (first | (go_at_call 9; ((with_reducible refine (awake20 _).mono ?_); rintro e w1 ⟨rfl, m1⟩; have B1 := Lib.hid (blk_more m1 (blk_alloc (blk_new w (.cells #[.int .i64 m, .int .i64 mo, .int .u32 src, .int .u16 sq, .int .u32 st] 25)) (.cells #[.bool p.mr, .int .u8 p.ty, .int .u16 p.sq, .int .u32 p.st, .int .u32 p.sc, .slice os p.ss.length ks, .bool p.has, .int .u16 p.pr, .slice oe p.ex.length ke, .slice ol p.pl.length kl] 39))); have X1 : Hid (w1.heap[w.heap.size + 1]? = some (.cells #[.bool p.mr, .int .u8 p.ty, .int .u16 p.sq, .int .u32 p.st, .int .u32 p.sc, .slice os p.ss.length ks, .bool p.has, .int .u16 p.pr, .slice oe p.ex.length ke, .slice ol p.pl.length kl] 39 (0, 0))) := Lib.hid (blk_more m1 (blk_new2 (by simp))); have M1 : Hid (More w w1) := Lib.hid (((More.alloc _ _).al _).trans m1); have q0 : w1.cell? ⟨w.heap.size, 0, none⟩ = some (.int .i64 m) := blk_cell B1.out 0 rfl; have q1 : w1.cell? ⟨w.heap.size, 1, none⟩ = some (.int .i64 mo) := blk_cell B1.out 1 rfl; have q2 : w1.cell? ⟨w.heap.size, 2, none⟩ = some (.int .u32 src) := blk_cell B1.out 2 rfl; have q3 : w1.cell? ⟨w.heap.size, 3, none⟩ = some (.int .u16 sq) := blk_cell B1.out 3 rfl; have q4 : w1.cell? ⟨w.heap.size, 4, none⟩ = some (.int .u32 st) := blk_cell B1.out 4 rfl; clear m1)) | (go_at_call 10; ((with_reducible refine (HB.out _).mono ?_); rintro e w2 ⟨rfl, m2⟩; have M2 : Hid (More w w2) := Lib.hid (M1.out.trans m2); clear m2)))
  go_ret
  exact ⟨rfl, M2.out⟩
set_option maxHeartbeats 8000000 in
theorem LaneOwn_no (n : Nat) (mo src sq st : Int) (p : Pk) (os oe ol : Option Addr) (ks ke kl : Nat) (w : World) (h1 : 1 ≤ n) (h2 : n ≤ 8) (h3 : 1 ≤ mo) (h4 : mo ≤ 10) (hq : U16 sq) (hs : U32 src) (hp : PkS w (.slice os p.ss.length ks) (.slice oe p.ex.length ke) (.slice ol p.pl.length kl) p) (h : refused p) :
    Calls Try.prog 8 #[.agg #[.int .i64 n, .int .i64 mo, .int .u32 src, .int .u16 sq, .int .u32 st], .agg #[.bool p.mr, .int .u8 p.ty, .int .u16 p.sq, .int .u32 p.st, .int .u32 p.sc, .slice os p.ss.length ks, .bool p.has, .int .u16 p.pr, .slice oe p.ex.length ke, .slice ol p.pl.length kl]] w fun e w' => e = .returned (.bool true) ∧ More w w' := by
  have HN := Lib.hid (fun w1 (m1 : More w w1) => new_hF w w1 m1 [] (fun b hb => by simp at hb) (n : Int) mo src sq st n rfl h1 h2 h3 h4 hq hs)
  have HS := Lib.hid hp
  clear h1 h2 h3 h4 hq hs hp
  by_cases a1 : 40 < p.ss.length
  · have a1' : (40 : Int) < p.ss.length := by omega
    have HSM : Hid True := Lib.hid trivial
    clear h
    go_enter Try.func8, Try.ntmps8
    go_wp2_with (first | (go_at_call 9; ((with_reducible refine (awake20 _).mono ?_); rintro e w1 ⟨rfl, m1⟩; have B1 := Lib.hid (blk_more m1 (blk_alloc (blk_new w (.cells #[.int .i64 n, .int .i64 mo, .int .u32 src, .int .u16 sq, .int .u32 st] 25)) (.cells #[.bool p.mr, .int .u8 p.ty, .int .u16 p.sq, .int .u32 p.st, .int .u32 p.sc, .slice os p.ss.length ks, .bool p.has, .int .u16 p.pr, .slice oe p.ex.length ke, .slice ol p.pl.length kl] 39))); have X1 : Hid (w1.heap[w.heap.size + 1]? = some (.cells #[.bool p.mr, .int .u8 p.ty, .int .u16 p.sq, .int .u32 p.st, .int .u32 p.sc, .slice os p.ss.length ks, .bool p.has, .int .u16 p.pr, .slice oe p.ex.length ke, .slice ol p.pl.length kl] 39 (0, 0))) := Lib.hid (blk_more m1 (blk_new2 (by simp))); have M1 : Hid (More w w1) := Lib.hid (((More.alloc _ _).al _).trans m1); have q0 : w1.cell? ⟨w.heap.size, 0, none⟩ = some (.int .i64 n) := blk_cell B1.out 0 rfl; have q1 : w1.cell? ⟨w.heap.size, 1, none⟩ = some (.int .i64 mo) := blk_cell B1.out 1 rfl; have q2 : w1.cell? ⟨w.heap.size, 2, none⟩ = some (.int .u32 src) := blk_cell B1.out 2 rfl; have q3 : w1.cell? ⟨w.heap.size, 3, none⟩ = some (.int .u16 sq) := blk_cell B1.out 3 rfl; have q4 : w1.cell? ⟨w.heap.size, 4, none⟩ = some (.int .u32 st) := blk_cell B1.out 4 rfl; clear m1)) | (go_at_call 10; ((with_reducible refine (HN.out _ M1.out).mono ?_); rintro e w2 ⟨L, rfl, h2, m2⟩; have M2 : Hid (More w w2) := Lib.hid (M1.out.trans m2); have X2 := Lib.hid (blk_more m2 X1.out); have S2 := Lib.hid (HS.out.keep M2.out); have x0 : w2.cell? ⟨w.heap.size + 1, 0, none⟩ = some (.bool p.mr) := blk_cell X2.out 0 rfl; have x1 : w2.cell? ⟨w.heap.size + 1, 1, none⟩ = some (.int .u8 p.ty) := blk_cell X2.out 1 rfl; have x2 : w2.cell? ⟨w.heap.size + 1, 2, none⟩ = some (.int .u16 p.sq) := blk_cell X2.out 2 rfl; have x3 : w2.cell? ⟨w.heap.size + 1, 3, none⟩ = some (.int .u32 p.st) := blk_cell X2.out 3 rfl; have x4 : w2.cell? ⟨w.heap.size + 1, 4, none⟩ = some (.int .u32 p.sc) := blk_cell X2.out 4 rfl; have x5 : w2.cell? ⟨w.heap.size + 1, 5, none⟩ = some (.slice os p.ss.length ks) := blk_cell X2.out 5 rfl; have x6 : w2.cell? ⟨w.heap.size + 1, 6, none⟩ = some (.bool p.has) := blk_cell X2.out 6 rfl; have x7 : w2.cell? ⟨w.heap.size + 1, 7, none⟩ = some (.int .u16 p.pr) := blk_cell X2.out 7 rfl; have x8 : w2.cell? ⟨w.heap.size + 1, 8, none⟩ = some (.slice oe p.ex.length ke) := blk_cell X2.out 8 rfl; have x9 : w2.cell? ⟨w.heap.size + 1, 9, none⟩ = some (.slice ol p.pl.length kl) := blk_cell X2.out 9 rfl; clear h2 m2)) | (go_at_call 27; ((with_reducible refine (RightH_any p _ _ _ _ S2.out HSM.out).mono ?_); rintro e w3 ⟨rfl, m3⟩; rw [HR.out]; have M3 : Hid (More w w3) := Lib.hid (M2.out.trans m3); clear m3)))
    go_ret
    exact ⟨rfl, by first | exact M3.out | exact M2.out⟩
  · have a1' : ¬ (40 : Int) < p.ss.length := by omega
    by_cases a2 : 1000 < p.ex.length
    · have a2' : (1000 : Int) < p.ex.length := by omega
      clear h
      go_enter Try.func8, Try.ntmps8
      go_wp2_with (first | (go_at_call 9; ((with_reducible refine (awake20 _).mono ?_); rintro e w1 ⟨rfl, m1⟩; have B1 := Lib.hid (blk_more m1 (blk_alloc (blk_new w (.cells #[.int .i64 n, .int .i64 mo, .int .u32 src, .int .u16 sq, .int .u32 st] 25)) (.cells #[.bool p.mr, .int .u8 p.ty, .int .u16 p.sq, .int .u32 p.st, .int .u32 p.sc, .slice os p.ss.length ks, .bool p.has, .int .u16 p.pr, .slice oe p.ex.length ke, .slice ol p.pl.length kl] 39))); have X1 : Hid (w1.heap[w.heap.size + 1]? = some (.cells #[.bool p.mr, .int .u8 p.ty, .int .u16 p.sq, .int .u32 p.st, .int .u32 p.sc, .slice os p.ss.length ks, .bool p.has, .int .u16 p.pr, .slice oe p.ex.length ke, .slice ol p.pl.length kl] 39 (0, 0))) := Lib.hid (blk_more m1 (blk_new2 (by simp))); have M1 : Hid (More w w1) := Lib.hid (((More.alloc _ _).al _).trans m1); have q0 : w1.cell? ⟨w.heap.size, 0, none⟩ = some (.int .i64 n) := blk_cell B1.out 0 rfl; have q1 : w1.cell? ⟨w.heap.size, 1, none⟩ = some (.int .i64 mo) := blk_cell B1.out 1 rfl; have q2 : w1.cell? ⟨w.heap.size, 2, none⟩ = some (.int .u32 src) := blk_cell B1.out 2 rfl; have q3 : w1.cell? ⟨w.heap.size, 3, none⟩ = some (.int .u16 sq) := blk_cell B1.out 3 rfl; have q4 : w1.cell? ⟨w.heap.size, 4, none⟩ = some (.int .u32 st) := blk_cell B1.out 4 rfl; clear m1)) | (go_at_call 10; ((with_reducible refine (HN.out _ M1.out).mono ?_); rintro e w2 ⟨L, rfl, h2, m2⟩; have M2 : Hid (More w w2) := Lib.hid (M1.out.trans m2); have X2 := Lib.hid (blk_more m2 X1.out); have S2 := Lib.hid (HS.out.keep M2.out); have x0 : w2.cell? ⟨w.heap.size + 1, 0, none⟩ = some (.bool p.mr) := blk_cell X2.out 0 rfl; have x1 : w2.cell? ⟨w.heap.size + 1, 1, none⟩ = some (.int .u8 p.ty) := blk_cell X2.out 1 rfl; have x2 : w2.cell? ⟨w.heap.size + 1, 2, none⟩ = some (.int .u16 p.sq) := blk_cell X2.out 2 rfl; have x3 : w2.cell? ⟨w.heap.size + 1, 3, none⟩ = some (.int .u32 p.st) := blk_cell X2.out 3 rfl; have x4 : w2.cell? ⟨w.heap.size + 1, 4, none⟩ = some (.int .u32 p.sc) := blk_cell X2.out 4 rfl; have x5 : w2.cell? ⟨w.heap.size + 1, 5, none⟩ = some (.slice os p.ss.length ks) := blk_cell X2.out 5 rfl; have x6 : w2.cell? ⟨w.heap.size + 1, 6, none⟩ = some (.bool p.has) := blk_cell X2.out 6 rfl; have x7 : w2.cell? ⟨w.heap.size + 1, 7, none⟩ = some (.int .u16 p.pr) := blk_cell X2.out 7 rfl; have x8 : w2.cell? ⟨w.heap.size + 1, 8, none⟩ = some (.slice oe p.ex.length ke) := blk_cell X2.out 8 rfl; have x9 : w2.cell? ⟨w.heap.size + 1, 9, none⟩ = some (.slice ol p.pl.length kl) := blk_cell X2.out 9 rfl; clear h2 m2)) | (go_at_call 27; ((with_reducible refine (RightH_any p _ _ _ _ S2.out HSM.out).mono ?_); rintro e w3 ⟨rfl, m3⟩; rw [HR.out]; have M3 : Hid (More w w3) := Lib.hid (M2.out.trans m3); clear m3)))
      go_ret
      exact ⟨rfl, by first | exact M3.out | exact M2.out⟩
    · have a2' : ¬ (1000 : Int) < p.ex.length := by omega
      by_cases a3 : 1000 < p.pl.length
      · have a3' : (1000 : Int) < p.pl.length := by omega
        clear h
        go_enter Try.func8, Try.ntmps8
        go_wp2_with (first | (go_at_call 9; ((with_reducible refine (awake20 _).mono ?_); rintro e w1 ⟨rfl, m1⟩; have B1 := Lib.hid (blk_more m1 (blk_alloc (blk_new w (.cells #[.int .i64 n, .int .i64 mo, .int .u32 src, .int .u16 sq, .int .u32 st] 25)) (.cells #[.bool p.mr, .int .u8 p.ty, .int .u16 p.sq, .int .u32 p.st, .int .u32 p.sc, .slice os p.ss.length ks, .bool p.has, .int .u16 p.pr, .slice oe p.ex.length ke, .slice ol p.pl.length kl] 39))); have X1 : Hid (w1.heap[w.heap.size + 1]? = some (.cells #[.bool p.mr, .int .u8 p.ty, .int .u16 p.sq, .int .u32 p.st, .int .u32 p.sc, .slice os p.ss.length ks, .bool p.has, .int .u16 p.pr, .slice oe p.ex.length ke, .slice ol p.pl.length kl] 39 (0, 0))) := Lib.hid (blk_more m1 (blk_new2 (by simp))); have M1 : Hid (More w w1) := Lib.hid (((More.alloc _ _).al _).trans m1); have q0 : w1.cell? ⟨w.heap.size, 0, none⟩ = some (.int .i64 n) := blk_cell B1.out 0 rfl; have q1 : w1.cell? ⟨w.heap.size, 1, none⟩ = some (.int .i64 mo) := blk_cell B1.out 1 rfl; have q2 : w1.cell? ⟨w.heap.size, 2, none⟩ = some (.int .u32 src) := blk_cell B1.out 2 rfl; have q3 : w1.cell? ⟨w.heap.size, 3, none⟩ = some (.int .u16 sq) := blk_cell B1.out 3 rfl; have q4 : w1.cell? ⟨w.heap.size, 4, none⟩ = some (.int .u32 st) := blk_cell B1.out 4 rfl; clear m1)) | (go_at_call 10; ((with_reducible refine (HN.out _ M1.out).mono ?_); rintro e w2 ⟨L, rfl, h2, m2⟩; have M2 : Hid (More w w2) := Lib.hid (M1.out.trans m2); have X2 := Lib.hid (blk_more m2 X1.out); have S2 := Lib.hid (HS.out.keep M2.out); have x0 : w2.cell? ⟨w.heap.size + 1, 0, none⟩ = some (.bool p.mr) := blk_cell X2.out 0 rfl; have x1 : w2.cell? ⟨w.heap.size + 1, 1, none⟩ = some (.int .u8 p.ty) := blk_cell X2.out 1 rfl; have x2 : w2.cell? ⟨w.heap.size + 1, 2, none⟩ = some (.int .u16 p.sq) := blk_cell X2.out 2 rfl; have x3 : w2.cell? ⟨w.heap.size + 1, 3, none⟩ = some (.int .u32 p.st) := blk_cell X2.out 3 rfl; have x4 : w2.cell? ⟨w.heap.size + 1, 4, none⟩ = some (.int .u32 p.sc) := blk_cell X2.out 4 rfl; have x5 : w2.cell? ⟨w.heap.size + 1, 5, none⟩ = some (.slice os p.ss.length ks) := blk_cell X2.out 5 rfl; have x6 : w2.cell? ⟨w.heap.size + 1, 6, none⟩ = some (.bool p.has) := blk_cell X2.out 6 rfl; have x7 : w2.cell? ⟨w.heap.size + 1, 7, none⟩ = some (.int .u16 p.pr) := blk_cell X2.out 7 rfl; have x8 : w2.cell? ⟨w.heap.size + 1, 8, none⟩ = some (.slice oe p.ex.length ke) := blk_cell X2.out 8 rfl; have x9 : w2.cell? ⟨w.heap.size + 1, 9, none⟩ = some (.slice ol p.pl.length kl) := blk_cell X2.out 9 rfl; clear h2 m2)) | (go_at_call 27; ((with_reducible refine (RightH_any p _ _ _ _ S2.out HSM.out).mono ?_); rintro e w3 ⟨rfl, m3⟩; rw [HR.out]; have M3 : Hid (More w w3) := Lib.hid (M2.out.trans m3); clear m3)))
        go_ret
        exact ⟨rfl, by first | exact M3.out | exact M2.out⟩
      · have a3' : ¬ (1000 : Int) < p.pl.length := by omega
        have HSM : Hid (PkSm p) := Lib.hid ⟨by omega, by omega, by omega⟩
        have HR : Hid (rightH p = false) := Lib.hid (by rcases h with h | h | h | h; omega; omega; omega; exact h)
        clear h
        go_enter Try.func8, Try.ntmps8
        go_wp2_with (first | (go_at_call 9; ((with_reducible refine (awake20 _).mono ?_); rintro e w1 ⟨rfl, m1⟩; have B1 := Lib.hid (blk_more m1 (blk_alloc (blk_new w (.cells #[.int .i64 n, .int .i64 mo, .int .u32 src, .int .u16 sq, .int .u32 st] 25)) (.cells #[.bool p.mr, .int .u8 p.ty, .int .u16 p.sq, .int .u32 p.st, .int .u32 p.sc, .slice os p.ss.length ks, .bool p.has, .int .u16 p.pr, .slice oe p.ex.length ke, .slice ol p.pl.length kl] 39))); have X1 : Hid (w1.heap[w.heap.size + 1]? = some (.cells #[.bool p.mr, .int .u8 p.ty, .int .u16 p.sq, .int .u32 p.st, .int .u32 p.sc, .slice os p.ss.length ks, .bool p.has, .int .u16 p.pr, .slice oe p.ex.length ke, .slice ol p.pl.length kl] 39 (0, 0))) := Lib.hid (blk_more m1 (blk_new2 (by simp))); have M1 : Hid (More w w1) := Lib.hid (((More.alloc _ _).al _).trans m1); have q0 : w1.cell? ⟨w.heap.size, 0, none⟩ = some (.int .i64 n) := blk_cell B1.out 0 rfl; have q1 : w1.cell? ⟨w.heap.size, 1, none⟩ = some (.int .i64 mo) := blk_cell B1.out 1 rfl; have q2 : w1.cell? ⟨w.heap.size, 2, none⟩ = some (.int .u32 src) := blk_cell B1.out 2 rfl; have q3 : w1.cell? ⟨w.heap.size, 3, none⟩ = some (.int .u16 sq) := blk_cell B1.out 3 rfl; have q4 : w1.cell? ⟨w.heap.size, 4, none⟩ = some (.int .u32 st) := blk_cell B1.out 4 rfl; clear m1)) | (go_at_call 10; ((with_reducible refine (HN.out _ M1.out).mono ?_); rintro e w2 ⟨L, rfl, h2, m2⟩; have M2 : Hid (More w w2) := Lib.hid (M1.out.trans m2); have X2 := Lib.hid (blk_more m2 X1.out); have S2 := Lib.hid (HS.out.keep M2.out); have x0 : w2.cell? ⟨w.heap.size + 1, 0, none⟩ = some (.bool p.mr) := blk_cell X2.out 0 rfl; have x1 : w2.cell? ⟨w.heap.size + 1, 1, none⟩ = some (.int .u8 p.ty) := blk_cell X2.out 1 rfl; have x2 : w2.cell? ⟨w.heap.size + 1, 2, none⟩ = some (.int .u16 p.sq) := blk_cell X2.out 2 rfl; have x3 : w2.cell? ⟨w.heap.size + 1, 3, none⟩ = some (.int .u32 p.st) := blk_cell X2.out 3 rfl; have x4 : w2.cell? ⟨w.heap.size + 1, 4, none⟩ = some (.int .u32 p.sc) := blk_cell X2.out 4 rfl; have x5 : w2.cell? ⟨w.heap.size + 1, 5, none⟩ = some (.slice os p.ss.length ks) := blk_cell X2.out 5 rfl; have x6 : w2.cell? ⟨w.heap.size + 1, 6, none⟩ = some (.bool p.has) := blk_cell X2.out 6 rfl; have x7 : w2.cell? ⟨w.heap.size + 1, 7, none⟩ = some (.int .u16 p.pr) := blk_cell X2.out 7 rfl; have x8 : w2.cell? ⟨w.heap.size + 1, 8, none⟩ = some (.slice oe p.ex.length ke) := blk_cell X2.out 8 rfl; have x9 : w2.cell? ⟨w.heap.size + 1, 9, none⟩ = some (.slice ol p.pl.length kl) := blk_cell X2.out 9 rfl; clear h2 m2)) | (go_at_call 27; ((with_reducible refine (RightH_any p _ _ _ _ S2.out HSM.out).mono ?_); rintro e w3 ⟨rfl, m3⟩; rw [HR.out]; have M3 : Hid (More w w3) := Lib.hid (M2.out.trans m3); clear m3)))
        go_ret
        exact ⟨rfl, by first | exact M3.out | exact M2.out⟩
set_option maxHeartbeats 8000000 in
theorem LaneOwn_main (n : Nat) (mo src sq st : Int) (p : Pk) (os oe ol : Option Addr) (ks ke kl : Nat) (w : World) (h1 : 1 ≤ n) (h2 : n ≤ 8) (h3 : 1 ≤ mo) (h4 : mo ≤ 10) (hq : U16 sq) (hs : U32 src) (hp : PkS w (.slice os p.ss.length ks) (.slice oe p.ex.length ke) (.slice ol p.pl.length kl) p) (hk : PkOK p) (h : ¬ refused p) :
    Calls Try.prog 8 #[.agg #[.int .i64 n, .int .i64 mo, .int .u32 src, .int .u16 sq, .int .u32 st], .agg #[.bool p.mr, .int .u8 p.ty, .int .u16 p.sq, .int .u32 p.st, .int .u32 p.sc, .slice os p.ss.length ks, .bool p.has, .int .u16 p.pr, .slice oe p.ex.length ke, .slice ol p.pl.length kl]] w fun e w' => e = .returned (.bool true) ∧ More w w' := by
  obtain ⟨i0, hi, hz0, hz1, hz2⟩ := info_parts (P := Try.prog) (e := 5) (z := .int .u8 0) (size := 1) (bytes := 1) (by kernel_rfl)
  have HN := Lib.hid (fun w1 (m1 : More w w1) hF => new_hF w w1 m1 [w.heap.size + 1] hF (n : Int) mo src sq st n rfl h1 h2 h3 h4 hq hs)
  have HS := Lib.hid hp
  have a1' : ¬ (40 : Int) < p.ss.length := fun e => h (Or.inl (by omega))
  have a2' : ¬ (1000 : Int) < p.ex.length := fun e => h (Or.inr (Or.inl (by omega)))
  have a3' : ¬ (1000 : Int) < p.pl.length := fun e => h (Or.inr (Or.inr (Or.inl (by omega))))
  have HSM : Hid (PkSm p) := Lib.hid ⟨by omega, by omega, by omega⟩
  have HR : Hid (rightH p = true) := Lib.hid (by cases hr : rightH p with | true => rfl | false => exact absurd (Or.inr (Or.inr (Or.inr hr))) h)
  have HQ := Lib.hid (own_q p src sq st HR.out hk hs hq)
  have HK := Lib.hid hk
  have HN1 := Lib.hid h1
  clear h1 h2 h3 h4 hq hs hp h hk
  go_enter Try.func8, Try.ntmps8
  go_upto_region 7 with (first     | (go_at_call 9; ((with_reducible refine (awake20 _).mono ?_); rintro e w1 ⟨rfl, m1⟩; have B1 := Lib.hid (blk_more m1 (blk_alloc (blk_new w (.cells #[.int .i64 n, .int .i64 mo, .int .u32 src, .int .u16 sq, .int .u32 st] 25)) (.cells #[.bool p.mr, .int .u8 p.ty, .int .u16 p.sq, .int .u32 p.st, .int .u32 p.sc, .slice os p.ss.length ks, .bool p.has, .int .u16 p.pr, .slice oe p.ex.length ke, .slice ol p.pl.length kl] 39))); have X1 : Hid (w1.heap[w.heap.size + 1]? = some (.cells #[.bool p.mr, .int .u8 p.ty, .int .u16 p.sq, .int .u32 p.st, .int .u32 p.sc, .slice os p.ss.length ks, .bool p.has, .int .u16 p.pr, .slice oe p.ex.length ke, .slice ol p.pl.length kl] 39 (0, 0))) := Lib.hid (blk_more m1 (blk_new2 (by simp))); have M1 : Hid (More w w1) := Lib.hid (((More.alloc _ _).al _).trans m1); have q0 : w1.cell? ⟨w.heap.size, 0, none⟩ = some (.int .i64 n) := blk_cell B1.out 0 rfl; have q1 : w1.cell? ⟨w.heap.size, 1, none⟩ = some (.int .i64 mo) := blk_cell B1.out 1 rfl; have q2 : w1.cell? ⟨w.heap.size, 2, none⟩ = some (.int .u32 src) := blk_cell B1.out 2 rfl; have q3 : w1.cell? ⟨w.heap.size, 3, none⟩ = some (.int .u16 sq) := blk_cell B1.out 3 rfl; have q4 : w1.cell? ⟨w.heap.size, 4, none⟩ = some (.int .u32 st) := blk_cell B1.out 4 rfl; clear m1))     | (go_at_call 10; ((with_reducible refine (HN.out _ M1.out (fun b hb => (by have := blk_lt X1.out; simp at hb; subst hb; omega))).mono ?_); rintro e w2 ⟨L, rfl, h2, m2⟩; have H2 := Lib.hid h2; have X2 := Lib.hid (blk_more m2 X1.out); have S2 := Lib.hid (HS.out.keep h2.more); have x0 : w2.cell? ⟨w.heap.size + 1, 0, none⟩ = some (.bool p.mr) := blk_cell X2.out 0 rfl; have x1 : w2.cell? ⟨w.heap.size + 1, 1, none⟩ = some (.int .u8 p.ty) := blk_cell X2.out 1 rfl; have x2 : w2.cell? ⟨w.heap.size + 1, 2, none⟩ = some (.int .u16 p.sq) := blk_cell X2.out 2 rfl; have x3 : w2.cell? ⟨w.heap.size + 1, 3, none⟩ = some (.int .u32 p.st) := blk_cell X2.out 3 rfl; have x4 : w2.cell? ⟨w.heap.size + 1, 4, none⟩ = some (.int .u32 p.sc) := blk_cell X2.out 4 rfl; have x5 : w2.cell? ⟨w.heap.size + 1, 5, none⟩ = some (.slice os p.ss.length ks) := blk_cell X2.out 5 rfl; have x6 : w2.cell? ⟨w.heap.size + 1, 6, none⟩ = some (.bool p.has) := blk_cell X2.out 6 rfl; have x7 : w2.cell? ⟨w.heap.size + 1, 7, none⟩ = some (.int .u16 p.pr) := blk_cell X2.out 7 rfl; have x8 : w2.cell? ⟨w.heap.size + 1, 8, none⟩ = some (.slice oe p.ex.length ke) := blk_cell X2.out 8 rfl; have x9 : w2.cell? ⟨w.heap.size + 1, 9, none⟩ = some (.slice ol p.pl.length kl) := blk_cell X2.out 9 rfl; clear h2 m2))     | (go_at_call 27; ((with_reducible refine (RightH_any p _ _ _ _ S2.out HSM.out).mono ?_); rintro e w3 ⟨rfl, m3⟩; rw [HR.out]; have H3 := Lib.hid (H2.out.on m3); have X3 := Lib.hid (blk_more m3 X2.out); clear x0 x1 x2 x3 x4 x5 x6 x7 x8 x9; have x0 : w3.cell? ⟨w.heap.size + 1, 0, none⟩ = some (.bool p.mr) := blk_cell X3.out 0 rfl; have x1 : w3.cell? ⟨w.heap.size + 1, 1, none⟩ = some (.int .u8 p.ty) := blk_cell X3.out 1 rfl; have x2 : w3.cell? ⟨w.heap.size + 1, 2, none⟩ = some (.int .u16 p.sq) := blk_cell X3.out 2 rfl; have x3 : w3.cell? ⟨w.heap.size + 1, 3, none⟩ = some (.int .u32 p.st) := blk_cell X3.out 3 rfl; have x4 : w3.cell? ⟨w.heap.size + 1, 4, none⟩ = some (.int .u32 p.sc) := blk_cell X3.out 4 rfl; have x5 : w3.cell? ⟨w.heap.size + 1, 5, none⟩ = some (.slice os p.ss.length ks) := blk_cell X3.out 5 rfl; have x6 : w3.cell? ⟨w.heap.size + 1, 6, none⟩ = some (.bool p.has) := blk_cell X3.out 6 rfl; have x7 : w3.cell? ⟨w.heap.size + 1, 7, none⟩ = some (.int .u16 p.pr) := blk_cell X3.out 7 rfl; have x8 : w3.cell? ⟨w.heap.size + 1, 8, none⟩ = some (.slice oe p.ex.length ke) := blk_cell X3.out 8 rfl; have x9 : w3.cell? ⟨w.heap.size + 1, 9, none⟩ = some (.slice ol p.pl.length kl) := blk_cell X3.out 9 rfl; clear m3))     | (refine lnIf (.store 39 (.tmp 7) (.tmp 47)) rfl ?_; refine ln_store_new rfl 39 (.tmp 7) (.tmp 47) rfl w3 _ #[.bool p.mr, .int .u8 p.ty, .int .u16 p.sq, .int .u32 p.st, .int .u32 p.sc, .slice os p.ss.length ks, .bool p.has, .int .u16 p.pr, .slice oe p.ex.length ke, .slice ol p.pl.length kl] rfl (by simp [go_sem]) rfl (by kernel_rfl) rfl rfl ?_))
  obtain ⟨W7, hW7⟩ : ∃ W7, w3.alloc (.cells #[.bool p.mr, .int .u8 p.ty, .int .u16 p.sq, .int .u32 p.st, .int .u32 p.sc, .slice os p.ss.length ks, .bool p.has, .int .u16 p.pr, .slice oe p.ex.length ke, .slice ol p.pl.length kl] 39) = W7 := ⟨_, rfl⟩
  obtain ⟨Bq, hBq⟩ : ∃ Bq, w3.heap.size = Bq := ⟨_, rfl⟩
  have H7 : Hid (LnH w W7 L (newL n mo src sq st) [Bq, w.heap.size + 1]) := Lib.hid (by rw [← hW7, ← hBq]; exact H3.out.add (More.alloc _ _) (Nat.le_refl _) (by simp))
  have X7 : Hid (W7.heap[w.heap.size + 1]? = some (.cells #[.bool p.mr, .int .u8 p.ty, .int .u16 p.sq, .int .u32 p.st, .int .u32 p.sc, .slice os p.ss.length ks, .bool p.has, .int .u16 p.pr, .slice oe p.ex.length ke, .slice ol p.pl.length kl] 39 (0, 0))) := Lib.hid (by rw [← hW7]; exact blk_alloc X3.out _)
  have Y7 : Hid (W7.heap[Bq]? = some (.cells #[.bool p.mr, .int .u8 p.ty, .int .u16 p.sq, .int .u32 p.st, .int .u32 p.sc, .slice os p.ss.length ks, .bool p.has, .int .u16 p.pr, .slice oe p.ex.length ke, .slice ol p.pl.length kl] 39 (0, 0))) := Lib.hid (by rw [← hW7, ← hBq]; exact blk_new w3 _)
  have hpq : w.heap.size + 1 ≠ Bq := by have := blk_lt X3.out; omega
  rw [hW7, hBq]
  clear hW7 hBq H3 X3 H2 X2 S2 M1 X1 B1 HN x0 x1 x2 x3 x4 x5 x6 x7 x8 x9 q0 q1 q2 q3 q4
  have S7 := Lib.hid (HS.out.keep H7.out.more)
  have x9 : W7.cell? ⟨w.heap.size + 1, 9, none⟩ = some (.slice ol p.pl.length kl) := blk_cell X7.out 9 rfl
  have x9' : (W7.alloc (.cells #[] 5)).cell? ⟨w.heap.size + 1, 9, none⟩ = some (.slice ol p.pl.length kl) := blk_cell (blk_alloc X7.out _) 9 rfl
  have HO : Hid ((W7.alloc (.cells #[] 5)).ownsRow W7.heap.size 5 1 (.slice (some ⟨W7.heap.size, 0, none⟩) 0 0) ([] : List Int).length (([] : List Int).map (Value.int .u8))) := Lib.hid (World.ownsRow_lit (e := 5) (size := 1) (base := W7.heap.size) W7 #[] 0 (Nat.le_refl _) (by unfold maxLen; omega) rfl)
  go_upto_region 8 with (at_builtin; (refine wpList_append_sl _ rfl (.tmp 48) (.tmp 50) 37 rfl W7.heap.size 5 i0 (.int .u8 0) 1 Try.underlying37 hi hz0 hz1 hz2 rfl _ .u8 [] rfl HO.out _ p.pl rfl (S7.out.l.keep (More.alloc _ _)) (by simp; omega) (by decide) (More.alloc W7 _).size ?_;       intro v8 w8 ho8 hg8; have O8 : Hid (w8.ownsRow W7.heap.size 5 1 v8 p.pl.length (p.pl.map (Value.int .u8))) := Lib.hid (by simpa using ho8); obtain ⟨o8, c8, rfl⟩ : ∃ o8 c8, v8 = .slice o8 p.pl.length c8 := (by obtain ⟨o, c, e, _⟩ := own_sl O8.out rfl (by omega); exact ⟨o, c, e⟩); have M8 : Hid (More W7 w8) := Lib.hid ((Away.of_grown hg8).to_more (More.alloc _ _) (fun b hb => by injection hb with e; exact Nat.le_of_eq e)); have Y8 := Lib.hid (blk_more M8.out Y7.out); have y9 : w8.cell? ⟨Bq, 9, none⟩ = some (.slice ol p.pl.length kl) := blk_cell Y8.out 9 rfl; have z9 : w8.frozen? ⟨Bq, 9, none⟩ = false := blk_free Y8.out 9; have hsz8 : W7.heap.size < w8.heap.size := Nat.lt_of_lt_of_le (by simp) hg8.size; clear ho8 hg8))
  obtain ⟨g, hg1, hg2, hg3⟩ := own_in O8.out hsz8
  have hgq : g ≠ Bq := by have := blk_lt Y7.out; omega
  have hgp : g ≠ w.heap.size + 1 := by have := blk_lt X7.out; omega
  obtain ⟨W9, hW9⟩ : ∃ W9, w8.setCell ⟨Bq, 9, none⟩ (.slice o8 p.pl.length c8) = W9 := ⟨_, rfl⟩
  have A9 : Away (fun b => b = Bq) w8 W9 := by rw [← hW9]; exact (Away.refl (fun b => b = Bq) w8).set (p := ⟨Bq, 9, none⟩) rfl _
  have H9 : Hid (LnH w W9 L (newL n mo src sq st) [g, Bq, w.heap.size + 1]) := Lib.hid ((H7.out.add M8.out hg2 hg3).mut (A9.mono fun b hb => by subst hb; simp))
  have X9 : Hid (W9.heap[w.heap.size + 1]? = some (.cells #[.bool p.mr, .int .u8 p.ty, .int .u16 p.sq, .int .u32 p.st, .int .u32 p.sc, .slice os p.ss.length ks, .bool p.has, .int .u16 p.pr, .slice oe p.ex.length ke, .slice ol p.pl.length kl] 39 (0, 0))) := Lib.hid (A9.blk (blk_more M8.out X7.out) hpq)
  have Y9 : Hid (W9.heap[Bq]? = some (.cells #[.bool p.mr, .int .u8 p.ty, .int .u16 p.sq, .int .u32 p.st, .int .u32 p.sc, .slice os p.ss.length ks, .bool p.has, .int .u16 p.pr, .slice oe p.ex.length ke, .slice o8 p.pl.length c8] 39 (0, 0))) := Lib.hid (by rw [← hW9]; exact blk_eq (blk_set Y8.out 9 _) rfl)
  have O9 : Hid (W9.ownsRow W7.heap.size 5 1 (.slice o8 p.pl.length c8) p.pl.length (p.pl.map (Value.int .u8))) := Lib.hid (ownsOff O8.out A9 (fun b hb e => by have := hg1 b hb; omega))
  have HSZ7 := Lib.hid (Nat.lt_of_lt_of_le hsz8 A9.size)
  rw [hW9]
  clear hW9 A9 H7 X7 Y7 S7 x9 x9' HO O8 M8 Y8 y9 z9 hsz8
  have HG1 := Lib.hid hg1
  clear hg1 hg2 hg3
  go_upto_region 10 with (first     | (go_at_call 17; ((with_reducible refine (want_h H9.out 0).mono ?_); rintro e w10 ⟨rfl, h10, t10⟩; have H10 : Hid (LnH w w10 L { newL n mo src sq st with wanted := true, cur := -1, tgt := 0 } [g, Bq, w.heap.size + 1]) := Lib.hid h10; have X10 := Lib.hid (t10.blk (by simp) X9.out); have Y10 := Lib.hid (t10.blk (by simp) Y9.out); have O10 := Lib.hid (rowOwn_stay O9.out (fun b hb => t10.2 b (by rw [HG1.out b hb]; simp))); have S10 := Lib.hid (own_sl (l := p.pl) O10.out rfl (by omega)); have y0 : w10.cell? ⟨Bq, 0, none⟩ = some (.bool p.mr) := blk_cell Y10.out 0 rfl; have y1 : w10.cell? ⟨Bq, 1, none⟩ = some (.int .u8 p.ty) := blk_cell Y10.out 1 rfl; have y2 : w10.cell? ⟨Bq, 2, none⟩ = some (.int .u16 p.sq) := blk_cell Y10.out 2 rfl; have y3 : w10.cell? ⟨Bq, 3, none⟩ = some (.int .u32 p.st) := blk_cell Y10.out 3 rfl; have y4 : w10.cell? ⟨Bq, 4, none⟩ = some (.int .u32 p.sc) := blk_cell Y10.out 4 rfl; have y5 : w10.cell? ⟨Bq, 5, none⟩ = some (.slice os p.ss.length ks) := blk_cell Y10.out 5 rfl; have y6 : w10.cell? ⟨Bq, 6, none⟩ = some (.bool p.has) := blk_cell Y10.out 6 rfl; have y7 : w10.cell? ⟨Bq, 7, none⟩ = some (.int .u16 p.pr) := blk_cell Y10.out 7 rfl; have y8 : w10.cell? ⟨Bq, 8, none⟩ = some (.slice oe p.ex.length ke) := blk_cell Y10.out 8 rfl; have y9 : w10.cell? ⟨Bq, 9, none⟩ = some (.slice o8 p.pl.length c8) := blk_cell Y10.out 9 rfl; clear h10 t10))     | (go_at_call 13; ((with_reducible refine (put_h H10.out ⟨0, 0, true, p⟩ os oe o8 ks ke c8 ⟨(HS.out.keep H10.out.more).s, (HS.out.keep H10.out.more).e, S10.out⟩ HK.out HSM.out).mono ?_); rintro e w11 ⟨rfl, h11, t11⟩; have H11 : Hid (LnH w w11 L { newL n mo src sq st with wanted := true, cur := -1, tgt := 0, A := [itO p] } [g, Bq, w.heap.size + 1]) := Lib.hid (by have e := own_put n mo src sq st p HN1.out HR.out; unfold itO at e; rw [e] at h11; exact h11); have X11 := Lib.hid (t11.blk (by simp) X10.out); have Y11 := Lib.hid (t11.blk (by simp) Y10.out); have O11 := Lib.hid (rowOwn_stay O10.out (fun b hb => t11.2 b (by rw [HG1.out b hb]; simp))); clear h11 t11)))
  have y9 : w11.cell? ⟨Bq, 9, none⟩ = some (.slice o8 p.pl.length c8) := blk_cell Y11.out 9 rfl
  clear H9 X9 Y9 O9 H10 X10 Y10 O10 S10 y0 y1 y2 y3 y4 y5 y6 y7 y8
  go_wp2
  go_loopw [62] (fun ix wr => ∃ (j : Nat) (l' : List Int), j ≤ p.pl.length ∧ ix = .int .i64 j ∧ l'.length = p.pl.length ∧ wr.ownsRow W7.heap.size 5 1 (.slice o8 p.pl.length c8) l'.length (l'.map (Value.int .u8)) ∧ LnH w wr L { newL n mo src sq st with wanted := true, cur := -1, tgt := 0, A := [itO p] } [g, Bq, w.heap.size + 1] ∧ wr.heap[w.heap.size + 1]? = some (.cells #[.bool p.mr, .int .u8 p.ty, .int .u16 p.sq, .int .u32 p.st, .int .u32 p.sc, .slice os p.ss.length ks, .bool p.has, .int .u16 p.pr, .slice oe p.ex.length ke, .slice ol p.pl.length kl] 39 (0, 0)) ∧ wr.heap[Bq]? = some (.cells #[.bool p.mr, .int .u8 p.ty, .int .u16 p.sq, .int .u32 p.st, .int .u32 p.sc, .slice os p.ss.length ks, .bool p.has, .int .u16 p.pr, .slice oe p.ex.length ke, .slice o8 p.pl.length c8] 39 (0, 0))) (fun ix _ => p.pl.length - (intOf ix).toNat)
  case atStart => exact ⟨0, p.pl, by omega, rfl, rfl, O11.out, H11.out, X11.out, Y11.out⟩
  case round =>
    clear H11 X11 Y11 O11 y9
    obtain ⟨j, l', hj, rfl, hl', ho, hh, hx, hy⟩ := hrel
    have HH := Lib.hid hh
    have HX := Lib.hid hx
    have HY := Lib.hid hy
    have HL' := Lib.hid hl'
    have HO := Lib.hid ho
    have y9 : wr.cell? ⟨Bq, 9, none⟩ = some (.slice o8 p.pl.length c8) := blk_cell hy 9 rfl
    clear hh hx hy
    by_cases hlt : j < p.pl.length
    · have hjl : (j : Int) < (p.pl.length : Int) := by omega
      rw [hl'] at ho
      obtain ⟨g', c', e, hc, hf, hst⟩ := own_at ho hl'.symm j (by omega)
      injection e with e1 e2 e3
      subst e1 e3
      obtain rfl : g' = g := HG1.out g' rfl
      generalize l'.getD j 0 = y at *
      have HST := Lib.hid hst
      clear hst ho hl'
      go_wp2
      go_roundw
      case rel => exact ⟨j + 1, _, by omega, by go_num, by rw [List.length_set]; exact HL'.out, HST.out _, HH.out.mut (((Away.refl _ _).set (p := ⟨g', j, none⟩) (by simp) _)), blk_other HX.out _ _ (Ne.symm hgp), blk_other HY.out _ _ (Ne.symm hgq)⟩
      case measure => simp [intOf]; omega
    · obtain rfl : j = p.pl.length := by omega
      have hjl : ¬ (p.pl.length : Int) < (p.pl.length : Int) := by omega
      clear ho hl' HO HL'
      have hBl : 12 ≤ (pkB (ownQ p src sq st)).length ∧ (pkB (ownQ p src sq st)).length ≤ 200 := by
        have e1 := pkB_len (ownQ p src sq st)
        have e2 := ((rightH_iff _).1 HQ.out.1).2.2.2.2
        rw [← e1] at e2
        unfold sizeH at e1
        split at e1 <;> omega
      have hBy : Byt (pkB (ownQ p src sq st)) := ln_pkB HQ.out.2.1
      have hrd : readH (pkB (ownQ p src sq st)) = (ownQ p src sq st, 0) := by
        have := read_pre HQ.out.1 HQ.out.2.1 (ownQ p src sq st).pl (by have := hBl.2; unfold pkB at this; rw [List.length_append] at this; omega)
        exact this
      have hrw := own_rewrite n mo src sq st p HN1.out
      have hql := HQ.out.2.2
      obtain ⟨Bd, hBd⟩ : ∃ Bd, pkB (ownQ p src sq st) = Bd := ⟨_, rfl⟩
      obtain ⟨q, hq⟩ : ∃ q, ownQ p src sq st = q := ⟨_, rfl⟩
      rw [hBd] at hBl hBy hrd hrw
      rw [hq] at hrd hql
      have HRW := Lib.hid hrw
      have HBY := Lib.hid hBy
      have HQL := Lib.hid hql
      obtain ⟨hB12, hB200⟩ := hBl
      have HRD := Lib.hid (fun (v : Value) (w6 : World) (hs : SlI .u8 w6 v Bd) => by
        have := ReadH_shortN v Bd w6 hs HBY.out (by omega)
        rw [hrd] at this
        exact this)
      clear hBy hBd hq hrd hrw hql HQ
      go_upto_region 19 with (first         | (go_at_call 14; ((with_reducible refine (choose_h HH.out).mono ?_); rintro e w12 ⟨rfl, h12, t12⟩; have H12 : Hid (LnH w w12 L { newL n mo src sq st with wanted := true, cur := 0, tgt := 0, A := [], B := [(itO p, true)] } [g, Bq, w.heap.size + 1]) := Lib.hid (by rw [own_choose n mo src sq st p HN1.out] at h12; exact h12); have X12 := Lib.hid (t12.blk (by simp) HX.out); clear h12 t12))         | (go_at_call 15; ((with_reducible refine (rewrite_h H12.out).mono ?_); rintro e w13 ⟨rfl, h13, t13⟩; have H13 : Hid (LnH w w13 L { newL n mo src sq st with wanted := true, cur := 0, tgt := 0, A := [], B := [], rw := stepP ⟨src, sq, st, false, 0, 0⟩ p true, C := [(0, Bd)] } [g, Bq, w.heap.size + 1]) := Lib.hid (by rw [HRW.out] at h13; exact h13); have X13 := Lib.hid (t13.blk (by simp) X12.out); clear h13 t13))         | (go_at_call 16; ((with_reducible refine (write_h H13.out (by simp [newL]) true).mono ?_); rintro e w14 ⟨rfl, h14, t14⟩; obtain ⟨s5, hs5⟩ : ∃ s5, (writeP { newL n mo src sq st with wanted := true, cur := 0, tgt := 0, A := [], B := [], rw := stepP ⟨src, sq, st, false, 0, 0⟩ p true, C := [(0, Bd)] } true).1 = s5 := ⟨_, rfl⟩; have HW5 : Hid (s5.W = [(0, Bd)]) := Lib.hid (by rw [← hs5]; exact own_write n mo src sq st _ Bd); rw [hs5] at h14; have H14 := Lib.hid h14; have X14 := Lib.hid (t14.blk (by simp) X13.out); clear h14 t14 hs5))         | (go_at_call 23; ((with_reducible refine (written_h H14.out (by rw [HW5.out]; simp)).mono ?_); rintro e w15 ⟨⟨v15, rfl, r15⟩, h15, t15, m15⟩; rw [HW5.out] at r15; obtain ⟨G, gc, ou, cu, rfl, hG1, hG2, hGc, hGs, hGo, hGn⟩ := ro_one r15; have M15 := Lib.hid m15; have X15 := Lib.hid (t15.blk (by simp) X14.out); have HGO := Lib.hid hGo; have HGN := Lib.hid hGn; have HGS := Lib.hid hGs; have HG12 := Lib.hid (And.intro hG1 hG2); simp only at hGc; clear r15 h15 t15 m15 hGo hGn hGs hG1 hG2)))
      obtain ⟨gb, cu', eou, -⟩ := own_at HGO.out rfl 0 (by omega)
      injection eou with e1 _ e3
      subst e1 e3
      have hgbG : gb ≠ G := HGN.out gb rfl
      have hgb1 : w14.heap.size ≤ gb ∧ gb < w15.heap.size := ⟨lnGeI HGO.out rfl, lnLtO HGO.out rfl⟩
      have H15 : Hid (LnH w w15 L s5 ([gb, G] ++ [g, Bq, w.heap.size + 1])) := Lib.hid (H14.out.adds M15.out (by intro b hb; simp at hb; rcases hb with rfl | rfl; exact hgb1; exact HG12.out))
      have HGB1 := Lib.hid hgb1
      clear hgb1 HGN HH HX H12 X12 H13 X13 X14 HRW HN1 HK HSM HR HY HG1
      have c15 : w15.cell? ⟨G, 1, none⟩ = some (.slice (some ⟨gb, 0, none⟩) Bd.length cu) := hGc
      have c15' : (w15.alloc (.cells #[] 5)).cell? ⟨G, 1, none⟩ = some (.slice (some ⟨gb, 0, none⟩) Bd.length cu) := by rw [(More.alloc w15 _).cells _ _ HG12.out.2]; exact hGc
      have HO15 : Hid ((w15.alloc (.cells #[] 5)).ownsRow w15.heap.size 5 1 (.slice (some ⟨w15.heap.size, 0, none⟩) 0 0) ([] : List Int).length (([] : List Int).map (Value.int .u8))) := Lib.hid (World.ownsRow_lit (e := 5) (size := 1) (base := w15.heap.size) w15 #[] 0 (Nat.le_refl _) (by unfold maxLen; omega) rfl)
      clear hGc
      go_upto_region 23 with (first         | (at_builtin; (refine wpList_append_sl _ rfl (.tmp 86) (.tmp 90) 37 rfl w15.heap.size 5 i0 (.int .u8 0) 1 Try.underlying37 hi hz0 hz1 hz2 rfl _ .u8 [] rfl HO15.out _ Bd rfl (HGS.out.keep (More.alloc _ _)) (by simp; omega) (by decide) (More.alloc w15 _).size ?_;           intro v17 w17 ho17 hg17; have O17 : Hid (w17.ownsRow w15.heap.size 5 1 v17 Bd.length (Bd.map (Value.int .u8))) := Lib.hid (by simpa using ho17); obtain ⟨o17, c17, rfl⟩ : ∃ o17 c17, v17 = .slice o17 Bd.length c17 := (by obtain ⟨o, c, e, _⟩ := own_sl O17.out rfl (by omega); exact ⟨o, c, e⟩); have M17 : Hid (More w15 w17) := Lib.hid ((Away.of_grown hg17).to_more (More.alloc _ _) (fun b hb => by injection hb with e; exact Nat.le_of_eq e)); have S17 := Lib.hid (own_sl (l := Bd) O17.out rfl (by omega)); clear ho17 hg17))         | (go_at_call 24; ((with_reducible refine (HRD.out _ _ S17.out).mono ?_); rintro e w18 ⟨vs6, ve6, vp6, rfl, s6, m6, n6⟩; obtain ⟨⟨ao, ak, rfl, -⟩, ⟨ao2, ak2, rfl, -⟩, ⟨ao3, ak3, rfl, -⟩⟩ := id s6; have S18 := Lib.hid s6; have M18 := Lib.hid m6; have N18 := Lib.hid n6; clear s6 m6 n6))         | (refine lnIf (.store 39 (.tmp 11) (.tmp 95)) rfl ?_; refine ln_store_new rfl 39 (.tmp 11) (.tmp 95) rfl w18 _ #[.bool q.mr, .int .u8 q.ty, .int .u16 q.sq, .int .u32 q.st, .int .u32 q.sc, .slice ao q.ss.length ak, .bool q.has, .int .u16 q.pr, .slice ao2 q.ex.length ak2, .slice ao3 q.pl.length ak3] rfl (by simp [go_sem]) rfl (by kernel_rfl) rfl rfl ?_))
      obtain ⟨W18, hW18⟩ : ∃ W18, w18.alloc (.cells #[.bool q.mr, .int .u8 q.ty, .int .u16 q.sq, .int .u32 q.st, .int .u32 q.sc, .slice ao q.ss.length ak, .bool q.has, .int .u16 q.pr, .slice ao2 q.ex.length ak2, .slice ao3 q.pl.length ak3] 39) = W18 := ⟨_, rfl⟩
      obtain ⟨BK, hBK⟩ : ∃ BK, w18.heap.size = BK := ⟨_, rfl⟩
      have K18 : Hid (W18.heap[BK]? = some (.cells #[.bool q.mr, .int .u8 q.ty, .int .u16 q.sq, .int .u32 q.st, .int .u32 q.sc, .slice ao q.ss.length ak, .bool q.has, .int .u16 q.pr, .slice ao2 q.ex.length ak2, .slice ao3 q.pl.length ak3] 39 (0, 0))) := Lib.hid (by rw [← hW18, ← hBK]; exact blk_new w18 _)
      have MA : Hid (More w15 W18) := Lib.hid (by rw [← hW18]; exact (M17.out.trans M18.out).al _)
      have MB : Hid (More w18 W18) := Lib.hid (by rw [← hW18]; exact More.alloc _ _)
      have hBK1 : gb < BK := by have := HGB1.out.2; have := M17.out.size; have := M18.out.size; omega
      rw [hW18, hBK]
      clear hW18 hBK c15'
      have c18 : W18.cell? ⟨G, 1, none⟩ = some (.slice (some ⟨gb, 0, none⟩) Bd.length cu) := by rw [MA.out.cells _ _ HG12.out.2]; exact c15
      clear c15
      go_wp2
      have H18 := Lib.hid (H15.out.on MA.out)
      have X18 := Lib.hid (blk_more MA.out X15.out)
      have O18 := Lib.hid (ownsOff HGO.out (S := fun _ => False) (Away.of_more MA.out) (fun _ _ h => h))
      have T17 : Hid (SlI .u8 W18 (.slice o17 Bd.length c17) Bd) := Lib.hid (S17.out.keep (M18.out.trans MB.out))
      have hpg : w.heap.size + 1 ≠ gb := by
        have := blk_lt X15.out
        have := HGB1.out.1
        intro e
        exact absurd (H14.out.own (w.heap.size + 1) (by simp)).2 (by omega)
      have hwr := HG12.out.2
      go_loopw [102] (fun ix wr => ∃ (j : Nat) (l' : List Int), j ≤ Bd.length ∧ ix = .int .i64 j ∧ l'.length = Bd.length ∧ wr.ownsRow w14.heap.size 5 1 (.slice (some ⟨gb, 0, none⟩) Bd.length cu) l'.length (l'.map (Value.int .u8)) ∧ Away (fun b => b = gb) W18 wr) (fun ix _ => Bd.length - (intOf ix).toNat)
      case atStart => exact ⟨0, Bd, by omega, rfl, rfl, O18.out, Away.refl _ _⟩
      case round =>
        obtain ⟨j, l', hj, rfl, hl', ho, ha⟩ := hrel
        have HA := Lib.hid ha
        have HL' := Lib.hid hl'
        have c19 : wr.cell? ⟨G, 1, none⟩ = some (.slice (some ⟨gb, 0, none⟩) Bd.length cu) := by rw [ha.cells G 1 (Nat.lt_of_lt_of_le hwr MA.out.size) (Ne.symm hgbG)]; exact c18
        clear ha
        by_cases hlt : j < Bd.length
        · have hjl : (j : Int) < (Bd.length : Int) := by omega
          rw [hl'] at ho
          obtain ⟨g', c', e, hc, hf, hst⟩ := own_at ho hl'.symm j (by omega)
          injection e with e1 e2 e3
          injection e1 with e1
          injection e1 with e1
          subst e1 e3
          generalize l'.getD j 0 = y at *
          have HST := Lib.hid hst
          clear hst ho hl'
          go_wp2
          go_roundw
          case rel => exact ⟨j + 1, _, by omega, by go_num, by rw [List.length_set]; exact HL'.out, HST.out _, HA.out.set rfl _⟩
          case measure => simp [intOf]; omega
        · obtain rfl : j = Bd.length := by omega
          have hjl : ¬ (Bd.length : Int) < (Bd.length : Int) := by omega
          have H19 := Lib.hid (H18.out.mut (HA.out.mono fun b hb => by subst hb; simp))
          have SQ : Hid (SlI .u8 wr (.slice ao3 q.pl.length ak3) q.pl) := Lib.hid ((S18.out.l.keep MB.out).off (fun b hb e => by have := N18.out b (Or.inr (Or.inr hb)); have := HGB1.out.2; have := M17.out.size; omega) HA.out)
          have SW : Hid (SlI .u8 wr (.slice o17 Bd.length c17) Bd) := Lib.hid (T17.out.off (fun b hb e => by have := lnGeI O17.out hb; have := HGB1.out.2; omega) HA.out)
          have K19 := Lib.hid (HA.out.blk K18.out (by omega))
          have X19 := Lib.hid (HA.out.blk X18.out hpg)
          clear ho hl' HL' H18 c18 c19 HA
          go_wp2_with (first             | (go_at_call 23; ((with_reducible refine (written_h H19.out (by rw [HW5.out]; simp)).mono ?_); rintro e w20 ⟨⟨v20, rfl, r20⟩, h20, t20, m20⟩; rw [HW5.out] at r20; obtain ⟨G2, gc2, ou2, cu2, rfl, hG3, hG4, c20, hGs2, hGo2, hGn2⟩ := ro_one r20; have M20 := Lib.hid m20; have HGS2 := Lib.hid hGs2; simp only at c20; have c20 : w20.cell? ⟨G2, 1, none⟩ = some (.slice ou2 Bd.length cu2) := c20; have k9 : w20.cell? ⟨BK, 9, none⟩ = some (.slice ao3 q.pl.length ak3) := blk_cell (blk_more m20 K19.out) 9 rfl; have x9 : w20.cell? ⟨w.heap.size + 1, 9, none⟩ = some (.slice ol p.pl.length kl) := blk_cell (blk_more m20 X19.out) 9 rfl; have H20 := Lib.hid (H19.out.more.trans m20); clear r20 h20 t20 m20 hGo2 hGn2 hGs2))             | (go_at_call 28; ((with_reducible refine (Same_any q.pl p.pl _ _ w20 (SQ.out.keep M20.out) (HS.out.l.keep H20.out)).mono ?_); rintro e w21 ⟨rfl, k21, rfl⟩; rw [decide_eq_true HQL.out]; have c21 : (w20.drewN k21).cell? ⟨G2, 1, none⟩ = some (.slice ou2 Bd.length cu2) := c20))             | (go_at_call 28; ((with_reducible refine (Same_any Bd Bd _ _ _ (HGS2.out.keep (More.drewN _ _)) ((SW.out.keep M20.out).keep (More.drewN _ _))).mono ?_); rintro e w22 ⟨rfl, k22, rfl⟩; rw [decide_eq_true (rfl : Bd = Bd)])))
          go_ret
          exact ⟨rfl, H20.out.dr _⟩
/-- The law. -/
theorem LaneOwn_law (cs : Array Value) (c : CfS) (ps : Array Value) (p : Pk) (w : World) (hc : RCfg w cs.toList c) (hp : RPk w ps.toList p) :
    Calls Try.prog 8 #[.agg cs, .agg ps] w fun e w' => e = .returned (.bool true) ∧ More w w' := by
  obtain ⟨hcs, h1, h2, h3⟩ := hc
  obtain ⟨m, mo, src, sq, st⟩ := c
  obtain rfl : cs = #[.int .i64 m, .int .i64 mo, .int .u32 src, .int .u16 sq, .int .u32 st] := by
    cases cs
    simpa using hcs
  obtain ⟨vs, ve, vp, hps, hpk, hok⟩ := hp
  obtain ⟨⟨os, ks, rfl, -⟩, ⟨oe, ke, rfl, -⟩, ⟨ol, kl, rfl, -⟩⟩ := id hpk
  obtain rfl : ps = #[.bool p.mr, .int .u8 p.ty, .int .u16 p.sq, .int .u32 p.st, .int .u32 p.sc, .slice os p.ss.length ks, .bool p.has, .int .u16 p.pr, .slice oe p.ex.length ke, .slice ol p.pl.length kl] := by
    cases ps
    simpa using hps
  cases hB : cfgB m mo with
  | false => exact LaneOwn_bad m mo src sq st p os oe ol ks ke kl w hB
  | true =>
    have hB := of_decide_eq_true hB
    obtain ⟨n, rfl⟩ : ∃ n : Nat, m = n := ⟨m.toNat, by omega⟩
    by_cases hr : refused p
    · exact LaneOwn_no n mo src sq st p os oe ol ks ke kl w (by omega) (by omega) (by omega) (by omega) h2 h1 hpk hr
    · exact LaneOwn_main n mo src sq st p os oe ol ks ke kl w (by omega) (by omega) (by omega) (by omega) h2 h1 hpk hok hr
end Go.Proofs.Ytdgmmffedhikcaa
