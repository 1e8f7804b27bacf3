/- Merged from my texts ReportX. -/
import Derived.Test.YtlnikmcimmnbmaaMg24
import Derived.Test.YtlnikmcimmnbmaaMg26
/- Reports: the document's Read. -/
namespace Go.Proofs.Ytlnikmcimmnbmaa
set_option linter.unusedSimpArgs false
set_option linter.unusedVariables false
open Go.RowKit
set_option maxRecDepth 100000

/-- What blocks are does not depend on memory. -/
theorem rowB_D {D D' : Nat → Prop} {w : World} {base e : Nat} {v : Value} {L : List Blk} (h : RowP 7 RBlk D w base e v L) (h' : ∀ b, v.ownBlock = some b → ¬ D' b) : RowP 7 RBlk D' w base e v L := by
  obtain ⟨⟨xs, h1, h2⟩, h3⟩ := h
  exact ⟨⟨xs, h1, fun i hi _ _ => h2 i hi w (Away.refl _ _)⟩, h'⟩
theorem rowB_step {S D : Nat → Prop} {w w' : World} {base e : Nat} {v : Value} {L : List Blk} (h : RowP 7 RBlk D w base e v L) (a : Away S w w') (hs : ∀ b, v.ownBlock = some b → ¬ S b) : RowP 7 RBlk D w' base e v L :=
  rowB_D ((rowB_D h hs).step a) h.apart
/-- The document's reader, the report that is being read, and its blocks. -/
structure RpD (w0 w : World) (R B5 : Nat) (v0 : Value) (L0 : List Int) (o0 o1 : Obj) (xs : List Value) (v : Value) (bl : List Blk) (s : RdS) : Prop where
  rd : RRd w R v0 L0 s
  sl : SlI .u8 w0 v0 L0
  b0 : w.heap[w0.heap.size]? = some o0
  b1 : w.heap[w0.heap.size + 1]? = some o1
  b5 : w.heap[B5]? = some (.cells (xs ++ [v]).toArray 41 (0, 0))
  row : RowP 7 RBlk (fun _ => False) w (B5 + 1) 143 v bl
  more : More w0 w
  h1 : w0.heap.size + 1 < R
  h2 : R < B5
section
variable {w0 w w' : World} {R B5 B7 : Nat} {v0 : Value} {L0 : List Int} {o0 o1 : Obj} {xs ys : List Value} {v v' : Value} {bl bl' : List Blk} {s s' : RdS}
theorem RpD.read (h : RpD w0 w R B5 v0 L0 o0 o1 xs v bl s) (r : RRd w' R v0 L0 s') (a : Away (fun b => b = R) w w') : RpD w0 w' R B5 v0 L0 o0 o1 xs v bl s' := by
  have h1 := h.h1
  have h2 := h.h2
  exact ⟨r, h.sl, a.blk h.b0 (by omega), a.blk h.b1 (by omega), a.blk h.b5 (by omega), rowB_step h.row a (fun b hb => by have := h.row.ge hb; omega), rd_more a h.more (by omega), h1, h2⟩
theorem RpD.on (h : RpD w0 w R B5 v0 L0 o0 o1 xs v bl s) (m : More w w') : RpD w0 w' R B5 v0 L0 o0 o1 xs v bl s :=
  ⟨h.rd.more m, h.sl, blk_more m h.b0, blk_more m h.b1, blk_more m h.b5, h.row.on m, h.more.trans m, h.h1, h.h2⟩
/-- Other blocks are written. -/
theorem RpD.off {S : Nat → Prop} (h : RpD w0 w R B5 v0 L0 o0 o1 xs v bl s) (a : Away S w w') (hS : ∀ b, S b → B5 < b) (hv : ∀ b, v.ownBlock = some b → ¬ S b) : RpD w0 w' R B5 v0 L0 o0 o1 xs v bl s := by
  have h1 := h.h1
  have h2 := h.h2
  have m : More w0 w' := Away.to_more h.more a (fun k hk => by have := hS k hk; omega)
  exact ⟨h.rd.on (a.block R h.rd.lt (fun e => by have := hS R e; omega)) (h.sl.keep m), h.sl, a.blk h.b0 (fun e => by have := hS _ e; omega), a.blk h.b1 (fun e => by have := hS _ e; omega), a.blk h.b5 (fun e => by have := hS _ e; omega), rowB_step h.row a hv, m, h1, h2⟩
theorem RpD.set (h : RpD w0 w R B5 v0 L0 o0 o1 xs v bl s) (i : Nat) (hi : i < xs.length) (x : Value) : RpD w0 (w.setCell ⟨B5, i, none⟩ x) R B5 v0 L0 o0 o1 (xs.set i x) v bl s := by
  have h1 := h.h1
  have h2 := h.h2
  have a5 : Away (fun b => b = B5) w (w.setCell ⟨B5, i, none⟩ x) := (Away.refl (fun b => b = B5) w).set (p := ⟨B5, i, none⟩) rfl x
  have m : More w0 (w.setCell ⟨B5, i, none⟩ x) := h.more.st (by show w0.heap.size ≤ B5; omega) x
  refine ⟨h.rd.on (a5.block R h.rd.lt (by omega)) (h.sl.keep m), h.sl, a5.blk h.b0 (by omega), a5.blk h.b1 (by omega), blk_eq (blk_set h.b5 i x) ?_, rowB_step h.row a5 (fun b hb => by have := h.row.ge hb; omega), m, h1, h2⟩
  simp [List.setIfInBounds_toArray, List.set_append, hi]
/-- The row grows, and is laid into the report. -/
theorem RpD.put (h : RpD w0 w R B5 v0 L0 o0 o1 xs v bl s) (hl : xs.length = 7) {D : Nat → Prop} (ho : RowP 7 RBlk D w' (B5 + 1) 143 v' bl') (hg : w.grownBy w' v.ownBlock) : RpD w0 (w'.setCell ⟨B5, 7, none⟩ v') R B5 v0 L0 o0 o1 xs v' bl' s := by
  have h1 := h.h1
  have h2 := h.h2
  have hv : ∀ g, v.ownBlock = some g → B5 + 1 ≤ g := fun g e => h.row.ge e
  have a : Away (fun b => v.ownBlock = some b) w w' := ⟨hg.os, hg.tape, hg.output, hg.size, fun k hk hs => hg.block k hk (fun e => hs e.symm)⟩
  have a5 : Away (fun b => b = B5) w' (w'.setCell ⟨B5, 7, none⟩ v') := (Away.refl (fun b => b = B5) w').set (p := ⟨B5, 7, none⟩) rfl v'
  have hm : More w0 w' := Away.to_more h.more a (fun k e => by have := hv k e; omega)
  have hm2 : More w0 (w'.setCell ⟨B5, 7, none⟩ v') := hm.st (by show w0.heap.size ≤ B5; omega) v'
  have eR : (w'.setCell ⟨B5, 7, none⟩ v').heap[R]? = w.heap[R]? := by
    rw [a5.block R (Nat.lt_of_lt_of_le h.rd.lt hg.size) (by omega), a.block R h.rd.lt (fun e => by have := hv R e; omega)]
  refine ⟨h.rd.on eR (h.sl.keep hm2), h.sl, a5.blk (a.blk h.b0 (fun e => by have := hv _ e; omega)) (by omega), a5.blk (a.blk h.b1 (fun e => by have := hv _ e; omega)) (by omega), blk_eq (blk_set (a.blk h.b5 (fun e => by have := hv _ e; omega)) 7 v') ?_, rowB_step (rowB_D ho (fun _ _ h => h)) a5 (fun b hb => by have := ho.ge hb; omega), hm2, h1, h2⟩
  match xs, hl with
  | [x0, x1, x2, x3, x4, x5, x6], _ => rfl
/-- .. and a block that is being read. -/
structure RpE (w0 w : World) (R B5 B7 : Nat) (v0 : Value) (L0 : List Int) (o0 o1 : Obj) (xs ys : List Value) (v : Value) (bl : List Blk) (s : RdS) : Prop where
  d : RpD w0 w R B5 v0 L0 o0 o1 xs v bl s
  b7 : w.heap[B7]? = some (.cells ys.toArray 143 (0, 0))
  h7 : B5 < B7
  n7 : v.ownBlock ≠ some B7
theorem RpE.new (h : RpD w0 w R B5 v0 L0 o0 o1 xs v bl s) (ys : List Value) (cs : Array Value) (hcs : cs = ys.toArray) : RpE w0 (w.alloc (.cells cs 143)) R B5 w.heap.size v0 L0 o0 o1 xs ys v bl s := by
  subst hcs
  exact ⟨h.on (More.alloc _ _), blk_new _ _, blk_lt h.b5, fun e => by have := h.row.lt e; omega⟩
theorem RpE.read (h : RpE w0 w R B5 B7 v0 L0 o0 o1 xs ys v bl s) (r : RRd w' R v0 L0 s') (a : Away (fun b => b = R) w w') : RpE w0 w' R B5 B7 v0 L0 o0 o1 xs ys v bl s' :=
  ⟨h.d.read r a, a.blk h.b7 (by have := h.d.h2; have := h.h7; omega), h.h7, h.n7⟩
theorem RpE.set (h : RpE w0 w R B5 B7 v0 L0 o0 o1 xs ys v bl s) (i : Nat) (x : Value) : RpE w0 (w.setCell ⟨B7, i, none⟩ x) R B5 B7 v0 L0 o0 o1 xs (ys.set i x) v bl s := by
  have a7 : Away (fun b => b = B7) w (w.setCell ⟨B7, i, none⟩ x) := (Away.refl (fun b => b = B7) w).set (p := ⟨B7, i, none⟩) rfl x
  refine ⟨h.d.off a7 (fun b e => by have := h.h7; omega) (fun b hb e => h.n7 (by rw [hb, e])), blk_eq (blk_set h.b7 i x) ?_, h.h7, h.n7⟩
  simp [List.setIfInBounds_toArray]
theorem RpE.on (h : RpE w0 w R B5 B7 v0 L0 o0 o1 xs ys v bl s) (m : More w w') : RpE w0 w' R B5 B7 v0 L0 o0 o1 xs ys v bl s := ⟨h.d.on m, blk_more m h.b7, h.h7, h.n7⟩
end
theorem num_u24 {s : RdS} (h : Byt s.1) : 0 ≤ num (tkB s.1 3) ∧ num (tkB s.1 3) < 16777216 := num_lt (tkB s.1 (3 : Nat)) 3 (tkB_byt h (3 : Nat)) (tkB_len s.1 3 (by omega)) (by omega)
theorem num_u8x {s : RdS} (h : Byt s.1) : 0 ≤ num (tkB s.1 1) ∧ num (tkB s.1 1) < 256 := num_lt (tkB s.1 (1 : Nat)) 1 (tkB_byt h (1 : Nat)) (tkB_len s.1 1 (by omega)) (by omega)
theorem sgd24x {X : Int} (h0 : 0 ≤ X) (h1 : X < 16777216) : sgd X 24 = if X < 8388608 then X else X - 16777216 := by
  have e1 : two 24 = 16777216 := by decide
  have e2 : two (24 - 1) = 8388608 := by decide
  unfold sgd
  rw [e1, e2, if_neg (by decide), Int.emod_eq_of_lt h0 h1]
theorem st8_blk {w : World} {b : Nat} {t : TypeId} {a0 a1 a2 a3 a4 a5 a6 a7 : Value} (h : w.heap[b]? = some (.cells #[a0, a1, a2, a3, a4, a5, a6, a7] t (0, 0))) (v0 v1 v2 v3 v4 v5 v6 v7 : Value) : ((((((((w.setCell ⟨b, 0, none⟩ v0).setCell ⟨b, 1, none⟩ v1).setCell ⟨b, 2, none⟩ v2).setCell ⟨b, 3, none⟩ v3).setCell ⟨b, 4, none⟩ v4).setCell ⟨b, 5, none⟩ v5).setCell ⟨b, 6, none⟩ v6).setCell ⟨b, 7, none⟩ v7).heap[b]? = some (.cells #[v0, v1, v2, v3, v4, v5, v6, v7] t (0, 0)) :=
by
  have h := blk_eq (cs' := #[v0, a1, a2, a3, a4, a5, a6, a7]) (blk_set h 0 v0) rfl
  have h := blk_eq (cs' := #[v0, v1, a2, a3, a4, a5, a6, a7]) (blk_set h 1 v1) rfl
  have h := blk_eq (cs' := #[v0, v1, v2, a3, a4, a5, a6, a7]) (blk_set h 2 v2) rfl
  have h := blk_eq (cs' := #[v0, v1, v2, v3, a4, a5, a6, a7]) (blk_set h 3 v3) rfl
  have h := blk_eq (cs' := #[v0, v1, v2, v3, v4, a5, a6, a7]) (blk_set h 4 v4) rfl
  have h := blk_eq (cs' := #[v0, v1, v2, v3, v4, v5, a6, a7]) (blk_set h 5 v5) rfl
  have h := blk_eq (cs' := #[v0, v1, v2, v3, v4, v5, v6, a7]) (blk_set h 6 v6) rfl
  exact blk_eq (blk_set h 7 v7) rfl
theorem Away.cons {b : Nat} {w w' : World} (h : Away (fun k => k = b) w w') (i : Nat) (v : Value) : Away (fun k => k = b) w (w'.setCell ⟨b, i, none⟩ v) := h.set (p := ⟨b, i, none⟩) rfl v
theorem Away.st8 (w : World) (b : Nat) (v0 v1 v2 v3 v4 v5 v6 v7 : Value) : Away (fun k => k = b) w ((((((((w.setCell ⟨b, 0, none⟩ v0).setCell ⟨b, 1, none⟩ v1).setCell ⟨b, 2, none⟩ v2).setCell ⟨b, 3, none⟩ v3).setCell ⟨b, 4, none⟩ v4).setCell ⟨b, 5, none⟩ v5).setCell ⟨b, 6, none⟩ v6).setCell ⟨b, 7, none⟩ v7) :=
  ((((((((Away.refl (fun k => k = b) w).cons 0 v0).cons 1 v1).cons 2 v2).cons 3 v3).cons 4 v4).cons 5 v5).cons 6 v6).cons 7 v7
theorem i32_small {x : Int} (h : -2147483648 ≤ x ∧ x ≤ 2147483647) : IntKind.i32.wrap x = x := by rw [wrap_i32]; omega
theorem cells8 {w : World} {b : Nat} {t : TypeId} {a0 a1 a2 a3 a4 a5 a6 a7 : Value} (h : w.heap[b]? = some (.cells #[a0, a1, a2, a3, a4, a5, a6, a7] t (0, 0))) :
    w.cell? ⟨b, 0, none⟩ = some a0 ∧ w.cell? ⟨b, 1, none⟩ = some a1 ∧ w.cell? ⟨b, 2, none⟩ = some a2 ∧ w.cell? ⟨b, 3, none⟩ = some a3 ∧ w.cell? ⟨b, 4, none⟩ = some a4 ∧ w.cell? ⟨b, 5, none⟩ = some a5 ∧ w.cell? ⟨b, 6, none⟩ = some a6 ∧ w.cell? ⟨b, 7, none⟩ = some a7 :=
  ⟨blk_cell h 0 rfl, blk_cell h 1 rfl, blk_cell h 2 rfl, blk_cell h 3 rfl, blk_cell h 4 rfl, blk_cell h 5 rfl, blk_cell h 6 rfl, blk_cell h 7 rfl⟩
theorem cells7 {w : World} {b : Nat} {t : TypeId} {a0 a1 a2 a3 a4 a5 a6 : Value} (h : w.heap[b]? = some (.cells #[a0, a1, a2, a3, a4, a5, a6] t (0, 0))) :
    w.cell? ⟨b, 0, none⟩ = some a0 ∧ w.cell? ⟨b, 1, none⟩ = some a1 ∧ w.cell? ⟨b, 2, none⟩ = some a2 ∧ w.cell? ⟨b, 3, none⟩ = some a3 ∧ w.cell? ⟨b, 4, none⟩ = some a4 ∧ w.cell? ⟨b, 5, none⟩ = some a5 ∧ w.cell? ⟨b, 6, none⟩ = some a6 :=
  ⟨blk_cell h 0 rfl, blk_cell h 1 rfl, blk_cell h 2 rfl, blk_cell h 3 rfl, blk_cell h 4 rfl, blk_cell h 5 rfl, blk_cell h 6 rfl⟩
theorem free8 {w : World} {b : Nat} {cs : Array Value} {t : TypeId} (h : w.heap[b]? = some (.cells cs t (0, 0))) :
    w.frozen? ⟨b, 0, none⟩ = false ∧ w.frozen? ⟨b, 1, none⟩ = false ∧ w.frozen? ⟨b, 2, none⟩ = false ∧ w.frozen? ⟨b, 3, none⟩ = false ∧ w.frozen? ⟨b, 4, none⟩ = false ∧ w.frozen? ⟨b, 5, none⟩ = false ∧ w.frozen? ⟨b, 6, none⟩ = false ∧ w.frozen? ⟨b, 7, none⟩ = false :=
  ⟨blk_free h 0, blk_free h 1, blk_free h 2, blk_free h 3, blk_free h 4, blk_free h 5, blk_free h 6, blk_free h 7⟩
set_option maxHeartbeats 8000000 in
theorem RRead08_200 {w : World} (kn : Nat) (B : List Int) (ob : Option Addr) (cb : Nat) (D : Rep × Int) (SL : Hid (SlI .u8 w (.slice ob B.length cb) B)) (HB : Hid (Byt B)) (hl : B.length ≤ 1000000) (hk31 : kn ≤ 31) (HR : Hid (rightB ((kn : Int), 200, B, ()) = true))
    (s0 : RdS) (HS0 : Hid (s0 = (tkS (tkS (tkS (tkS (tkS (tkS (B, 0) 4) 4) 4) 4) 4) 4))) (HD : Hid (doneR ⟨true, rdNum (B, 0), ⟨rdNum (tkS (B, 0) 4), rdNum (tkS (tkS (B, 0) 4) 4), rdNum (tkS (tkS (tkS (B, 0) 4) 4) 4), rdNum (tkS (tkS (tkS (tkS (B, 0) 4) 4) 4) 4), rdNum (tkS (tkS (tkS (tkS (tkS (B, 0) 4) 4) 4) 4) 4)⟩, (readBls kn s0).1⟩ (readBls kn s0).2 = D)) :
    Calls Try.prog 20 #[.agg #[.int .u8 (kn : Int), .int .u8 200, .slice ob B.length cb]] w fun e w' => (∃ vb, e = .returned (.tuple #[.agg #[.bool D.1.snd, .int .u32 D.1.src, .int .u32 D.1.inf.sec, .int .u32 D.1.inf.frac, .int .u32 D.1.inf.stamp, .int .u32 D.1.inf.pkts, .int .u32 D.1.inf.octs, vb], .int .i64 D.2]) ∧ SlP 7 RBlk w' vb D.1.bl) ∧ More w w' := by
  obtain ⟨j0, hi, hz0, hz1, hz2⟩ := info_parts (P := Try.prog) (e := 143) (z := .agg #[.int .u32 0, .int .u8 0, .int .i32 0, .int .u32 0, .int .u32 0, .int .u32 0, .int .u32 0]) (size := 7) (bytes := 28) (by kernel_rfl)
  obtain ⟨k, hkk⟩ : ∃ k : Int, k = (kn : Int) := ⟨_, rfl⟩
  rw [← hkk] at HR ⊢
  have HKK := Lib.hid hkk
  have hkw : IntKind.i64.wrap k = k := IntWalk.i64_in _ (by omega)
  have hk0 : 0 ≤ k := by omega
  have hk1 : k ≤ 31 := by omega
  clear hkk
  have HRT := Lib.hid (RRight07_any (w := (w.alloc (.cells #[.int .u8 k, .int .u8 200, .slice ob B.length cb] 35)).alloc (.cells #[.bool false, .int .u32 0, .int .u32 0, .int .u32 0, .int .u32 0, .int .u32 0, .int .u32 0, .slice none 0 0] 41)) (k, 200, B, ()) (SL.out.keep ((More.alloc _ _).al _)))
  have A0 := Lib.hid (blk_alloc (blk_new w (.cells #[.int .u8 k, .int .u8 200, .slice ob B.length cb] 35)) (.cells #[.bool false, .int .u32 0, .int .u32 0, .int .u32 0, .int .u32 0, .int .u32 0, .int .u32 0, .slice none 0 0] 41))
  have B0 := Lib.hid (blk_new2 (w := w.alloc (.cells #[.int .u8 k, .int .u8 200, .slice ob B.length cb] 35)) (n := w.heap.size + 1) (o := (.cells #[.bool false, .int .u32 0, .int .u32 0, .int .u32 0, .int .u32 0, .int .u32 0, .int .u32 0, .slice none 0 0] 41)) (by simp))
  have hpp : (Value.pointer (some ⟨0, 0, none⟩)) = (Value.pointer (some ⟨0, 0, none⟩)) := rfl
  clear hpp
  go_enter Try.func20, Try.ntmps20
  go_wp2_with (go_at_call 82; ((with_reducible refine (HRT.out).mono ?_); rintro e w3 ⟨rfl, m3⟩; rw [HR.out]; have A3 := Lib.hid (blk_more m3 A0.out); have B3 := Lib.hid (blk_more m3 B0.out); have M3 := Lib.hid (((More.alloc w (.cells #[.int .u8 k, .int .u8 200, .slice ob B.length cb] 35)).al (.cells #[.bool false, .int .u32 0, .int .u32 0, .int .u32 0, .int .u32 0, .int .u32 0, .int .u32 0, .slice none 0 0] 41)).trans m3); have p1 := blk_cell A3.out 1 (v := .int .u8 200) rfl; have p2 := blk_cell A3.out 2 (v := .slice ob B.length cb) rfl; have p3 := blk_cell (blk_alloc A3.out (.cells #[.slice ob B.length cb, .int .i64 0, .int .i64 0] 155)) 1 (v := .int .u8 200) rfl; clear m3))
  have J0 : Hid (RpD w ((w3.alloc (.cells #[.slice ob B.length cb, .int .i64 0, .int .i64 0] 155)).alloc (.cells #[.bool true, .int .u32 0, .int .u32 0, .int .u32 0, .int .u32 0, .int .u32 0, .int .u32 0, .slice none 0 0] 41)) w3.heap.size (w3.heap.size + 1) (.slice ob B.length cb) B (.cells #[.int .u8 k, .int .u8 200, .slice ob B.length cb] 35) (.cells #[.bool false, .int .u32 0, .int .u32 0, .int .u32 0, .int .u32 0, .int .u32 0, .int .u32 0, .slice none 0 0] 41) [.bool true, .int .u32 0, .int .u32 0, .int .u32 0, .int .u32 0, .int .u32 0, .int .u32 0] (.slice none 0 0) [] (B, 0)) := Lib.hid ⟨⟨0, blk_alloc (blk_new w3 _) _, SL.out.keep ((M3.out.al _).al _), hl, HB.out, Nat.zero_le _, rfl⟩, SL.out, blk_alloc (blk_alloc A3.out _) _, blk_alloc (blk_alloc B3.out _) _, blk_new2 (by simp), RowP.nil _ _ _ _ _ _, (M3.out.al _).al _, blk_lt B3.out, by omega⟩
  clear p1 p2 p3 A0 B0 HRT HR
  have hR0 : w.heap.size + 1 < w3.heap.size := blk_lt B3.out
  clear A3 B3 M3
  generalize (w3.alloc (.cells #[.slice ob B.length cb, .int .i64 0, .int .i64 0] 155)).alloc (.cells #[.bool true, .int .u32 0, .int .u32 0, .int .u32 0, .int .u32 0, .int .u32 0, .int .u32 0, .slice none 0 0] 41) = u0 at *
  obtain ⟨B5, hB5⟩ : ∃ B5, B5 = w3.heap.size + 1 := ⟨_, rfl⟩
  rw [← hB5] at J0 ⊢
  clear hB5
  generalize w3.heap.size = R at *
  (with_reducible refine (num08_any J0.out.rd).mono ?_)
  rintro e t0 ⟨rfl, r0, a0⟩
  have K0 := Lib.hid (J0.out.read r0 a0)
  have q0 := blk_cell K0.out.b5 1 (v := .int .u32 0) rfl
  have z0 := blk_free K0.out.b5 1
  have g0 := blk_cell K0.out.b5 0 (v := .bool true) rfl
  clear J0 r0 a0
  go_wp2_with fail
  have J1 : Hid (RpD w (t0.setCell ⟨B5, 1, none⟩ (.int .u32 (rdNum (B, 0)))) R B5 (.slice ob B.length cb) B (.cells #[.int .u8 k, .int .u8 200, .slice ob B.length cb] 35) (.cells #[.bool false, .int .u32 0, .int .u32 0, .int .u32 0, .int .u32 0, .int .u32 0, .int .u32 0, .slice none 0 0] 41) [.bool true, .int .u32 (rdNum (B, 0)), .int .u32 0, .int .u32 0, .int .u32 0, .int .u32 0, .int .u32 0] (.slice none 0 0) [] (tkS (B, 0) 4)) := Lib.hid (K0.out.set 1 (by simp) _)
  clear K0 q0 z0 g0
  generalize t0.setCell ⟨B5, 1, none⟩ (.int .u32 (rdNum (B, 0))) = u1 at *
  (with_reducible refine (num08_any J1.out.rd).mono ?_)
  rintro e t1 ⟨rfl, r1, a1⟩
  have K1 := Lib.hid (J1.out.read r1 a1)
  have q1 := blk_cell K1.out.b5 2 (v := .int .u32 0) rfl
  have z1 := blk_free K1.out.b5 2
  have g1 := blk_cell K1.out.b5 0 (v := .bool true) rfl
  clear J1 r1 a1
  go_wp2_with fail
  have J2 : Hid (RpD w (t1.setCell ⟨B5, 2, none⟩ (.int .u32 (rdNum (tkS (B, 0) 4)))) R B5 (.slice ob B.length cb) B (.cells #[.int .u8 k, .int .u8 200, .slice ob B.length cb] 35) (.cells #[.bool false, .int .u32 0, .int .u32 0, .int .u32 0, .int .u32 0, .int .u32 0, .int .u32 0, .slice none 0 0] 41) [.bool true, .int .u32 (rdNum (B, 0)), .int .u32 (rdNum (tkS (B, 0) 4)), .int .u32 0, .int .u32 0, .int .u32 0, .int .u32 0] (.slice none 0 0) [] (tkS (tkS (B, 0) 4) 4)) := Lib.hid (K1.out.set 2 (by simp) _)
  clear K1 q1 z1 g1
  generalize t1.setCell ⟨B5, 2, none⟩ (.int .u32 (rdNum (tkS (B, 0) 4))) = u2 at *
  (with_reducible refine (num08_any J2.out.rd).mono ?_)
  rintro e t2 ⟨rfl, r2, a2⟩
  have K2 := Lib.hid (J2.out.read r2 a2)
  have q2 := blk_cell K2.out.b5 3 (v := .int .u32 0) rfl
  have z2 := blk_free K2.out.b5 3
  have g2 := blk_cell K2.out.b5 0 (v := .bool true) rfl
  clear J2 r2 a2
  go_wp2_with fail
  have J3 : Hid (RpD w (t2.setCell ⟨B5, 3, none⟩ (.int .u32 (rdNum (tkS (tkS (B, 0) 4) 4)))) R B5 (.slice ob B.length cb) B (.cells #[.int .u8 k, .int .u8 200, .slice ob B.length cb] 35) (.cells #[.bool false, .int .u32 0, .int .u32 0, .int .u32 0, .int .u32 0, .int .u32 0, .int .u32 0, .slice none 0 0] 41) [.bool true, .int .u32 (rdNum (B, 0)), .int .u32 (rdNum (tkS (B, 0) 4)), .int .u32 (rdNum (tkS (tkS (B, 0) 4) 4)), .int .u32 0, .int .u32 0, .int .u32 0] (.slice none 0 0) [] (tkS (tkS (tkS (B, 0) 4) 4) 4)) := Lib.hid (K2.out.set 3 (by simp) _)
  clear K2 q2 z2 g2
  generalize t2.setCell ⟨B5, 3, none⟩ (.int .u32 (rdNum (tkS (tkS (B, 0) 4) 4))) = u3 at *
  (with_reducible refine (num08_any J3.out.rd).mono ?_)
  rintro e t3 ⟨rfl, r3, a3⟩
  have K3 := Lib.hid (J3.out.read r3 a3)
  have q3 := blk_cell K3.out.b5 4 (v := .int .u32 0) rfl
  have z3 := blk_free K3.out.b5 4
  have g3 := blk_cell K3.out.b5 0 (v := .bool true) rfl
  clear J3 r3 a3
  go_wp2_with fail
  have J4 : Hid (RpD w (t3.setCell ⟨B5, 4, none⟩ (.int .u32 (rdNum (tkS (tkS (tkS (B, 0) 4) 4) 4)))) R B5 (.slice ob B.length cb) B (.cells #[.int .u8 k, .int .u8 200, .slice ob B.length cb] 35) (.cells #[.bool false, .int .u32 0, .int .u32 0, .int .u32 0, .int .u32 0, .int .u32 0, .int .u32 0, .slice none 0 0] 41) [.bool true, .int .u32 (rdNum (B, 0)), .int .u32 (rdNum (tkS (B, 0) 4)), .int .u32 (rdNum (tkS (tkS (B, 0) 4) 4)), .int .u32 (rdNum (tkS (tkS (tkS (B, 0) 4) 4) 4)), .int .u32 0, .int .u32 0] (.slice none 0 0) [] (tkS (tkS (tkS (tkS (B, 0) 4) 4) 4) 4)) := Lib.hid (K3.out.set 4 (by simp) _)
  clear K3 q3 z3 g3
  generalize t3.setCell ⟨B5, 4, none⟩ (.int .u32 (rdNum (tkS (tkS (tkS (B, 0) 4) 4) 4))) = u4 at *
  (with_reducible refine (num08_any J4.out.rd).mono ?_)
  rintro e t4 ⟨rfl, r4, a4⟩
  have K4 := Lib.hid (J4.out.read r4 a4)
  have q4 := blk_cell K4.out.b5 5 (v := .int .u32 0) rfl
  have z4 := blk_free K4.out.b5 5
  have g4 := blk_cell K4.out.b5 0 (v := .bool true) rfl
  clear J4 r4 a4
  go_wp2_with fail
  have J5 : Hid (RpD w (t4.setCell ⟨B5, 5, none⟩ (.int .u32 (rdNum (tkS (tkS (tkS (tkS (B, 0) 4) 4) 4) 4)))) R B5 (.slice ob B.length cb) B (.cells #[.int .u8 k, .int .u8 200, .slice ob B.length cb] 35) (.cells #[.bool false, .int .u32 0, .int .u32 0, .int .u32 0, .int .u32 0, .int .u32 0, .int .u32 0, .slice none 0 0] 41) [.bool true, .int .u32 (rdNum (B, 0)), .int .u32 (rdNum (tkS (B, 0) 4)), .int .u32 (rdNum (tkS (tkS (B, 0) 4) 4)), .int .u32 (rdNum (tkS (tkS (tkS (B, 0) 4) 4) 4)), .int .u32 (rdNum (tkS (tkS (tkS (tkS (B, 0) 4) 4) 4) 4)), .int .u32 0] (.slice none 0 0) [] (tkS (tkS (tkS (tkS (tkS (B, 0) 4) 4) 4) 4) 4)) := Lib.hid (K4.out.set 5 (by simp) _)
  clear K4 q4 z4 g4
  generalize t4.setCell ⟨B5, 5, none⟩ (.int .u32 (rdNum (tkS (tkS (tkS (tkS (B, 0) 4) 4) 4) 4))) = u5 at *
  (with_reducible refine (num08_any J5.out.rd).mono ?_)
  rintro e t5 ⟨rfl, r5, a5⟩
  have K5 := Lib.hid (J5.out.read r5 a5)
  have q5 := blk_cell K5.out.b5 6 (v := .int .u32 0) rfl
  have z5 := blk_free K5.out.b5 6
  have g5 := blk_cell K5.out.b5 0 (v := .bool true) rfl
  clear J5 r5 a5
  go_wp2_with fail
  have J6 : Hid (RpD w (t5.setCell ⟨B5, 6, none⟩ (.int .u32 (rdNum (tkS (tkS (tkS (tkS (tkS (B, 0) 4) 4) 4) 4) 4)))) R B5 (.slice ob B.length cb) B (.cells #[.int .u8 k, .int .u8 200, .slice ob B.length cb] 35) (.cells #[.bool false, .int .u32 0, .int .u32 0, .int .u32 0, .int .u32 0, .int .u32 0, .int .u32 0, .slice none 0 0] 41) [.bool true, .int .u32 (rdNum (B, 0)), .int .u32 (rdNum (tkS (B, 0) 4)), .int .u32 (rdNum (tkS (tkS (B, 0) 4) 4)), .int .u32 (rdNum (tkS (tkS (tkS (B, 0) 4) 4) 4)), .int .u32 (rdNum (tkS (tkS (tkS (tkS (B, 0) 4) 4) 4) 4)), .int .u32 (rdNum (tkS (tkS (tkS (tkS (tkS (B, 0) 4) 4) 4) 4) 4))] (.slice none 0 0) [] (tkS (tkS (tkS (tkS (tkS (tkS (B, 0) 4) 4) 4) 4) 4) 4)) := Lib.hid (K5.out.set 6 (by simp) _)
  clear K5 q5 z5 g5
  generalize t5.setCell ⟨B5, 6, none⟩ (.int .u32 (rdNum (tkS (tkS (tkS (tkS (tkS (B, 0) 4) 4) 4) 4) 4))) = u6 at *
  have HJL := J6
  clear J6
  rw [← HS0.out] at HJL
  clear HS0
  generalize rdNum (B, 0) = A1 at *
  generalize rdNum (tkS (B, 0) 4) = A2 at *
  generalize rdNum (tkS (tkS (B, 0) 4) 4) = A3 at *
  generalize rdNum (tkS (tkS (tkS (B, 0) 4) 4) 4) = A4 at *
  generalize rdNum (tkS (tkS (tkS (tkS (B, 0) 4) 4) 4) 4) = A5 at *
  generalize rdNum (tkS (tkS (tkS (tkS (tkS (B, 0) 4) 4) 4) 4) 4) = A6 at *
  go_loopw [6] (fun ix wr => ∃ j : Nat, j ≤ kn ∧ ix = .int .i64 (j : Int) ∧ (∃ v bl s, RpD w wr R B5 (.slice ob B.length cb) B (.cells #[.int .u8 k, .int .u8 200, .slice ob B.length cb] 35) (.cells #[.bool false, .int .u32 0, .int .u32 0, .int .u32 0, .int .u32 0, .int .u32 0, .int .u32 0, .slice none 0 0] 41) [.bool true, .int .u32 A1, .int .u32 A2, .int .u32 A3, .int .u32 A4, .int .u32 A5, .int .u32 A6] v bl s ∧ bl.length = j ∧ (readBls kn s0).1 = bl ++ (readBls (kn - j) s).1 ∧ (readBls kn s0).2 = (readBls (kn - j) s).2)) (fun ix _ => kn - (intOf ix).toNat)
  case atStart => exact ⟨0, by omega, rfl, ⟨_, _, _, HJL.out, rfl, by simp, rfl⟩⟩
  case round =>
    obtain ⟨j, hj, rfl, ⟨v, bl, s, hJ, hlen, hr1, hr2⟩⟩ := hrel
    have HJ := Lib.hid hJ
    have HL := Lib.hid hlen
    have pk := blk_cell hJ.b0 0 (v := .int .u8 k) rfl
    clear hJ hlen
    by_cases hlt : j < kn
    · have hjk : (j : Int) < k := by rw [HKK.out]; omega
      have e1 : kn - j = (kn - (j + 1)) + 1 := by omega
      have hst := readBls_step (kn - (j + 1)) s bl
      rw [e1, hst.1] at hr1
      rw [e1, hst.2] at hr2
      have H1 := Lib.hid hr1
      have H2 := Lib.hid hr2
      have OKB := Lib.hid (readBlk_ok (s := s) HJ.out.rd.byt)
      clear hr1 hr2 hst e1
      have hb0 := HJ.out.rd.byt
      have b1 := num_u8x (s := tkS s 4) (tkS_byt hb0 4)
      have b3 := num_u24 (s := tkS (tkS s 4) 1) (tkS_byt (tkS_byt hb0 4) 1)
      obtain ⟨X1, hX1⟩ : ∃ X, num (tkB (tkS s 4).1 1) = X := ⟨_, rfl⟩
      obtain ⟨X3, hX3⟩ : ∃ X, num (tkB (tkS (tkS s 4) 1).1 3) = X := ⟨_, rfl⟩
      rw [hX1] at b1
      rw [hX3] at b3
      obtain ⟨b10, b11⟩ := b1
      obtain ⟨b30, b31⟩ := b3
      have HX1 := Lib.hid hX1
      have HX3 := Lib.hid hX3
      have hsg := sgd24x b30 b31
      clear hX1 hX3 hb0
      have ew1 : IntKind.u8.wrap X1 = X1 := IntWalk.u8_in _ (by omega)
      have ew3 : IntKind.i64.wrap X3 = X3 := IntWalk.i64_in _ (by omega)
      by_cases hc : X3 < 8388608
      · rw [if_pos hc] at hsg
        have HCE : Hid ((readBlk s).1.cells = [.int .u32 (rdNum s), .int .u8 X1, .int .i32 X3, .int .u32 (rdNum (tkS (tkS (tkS s 4) 1) 3)), .int .u32 (rdNum (tkS (tkS (tkS (tkS s 4) 1) 3) 4)), .int .u32 (rdNum (tkS (tkS (tkS (tkS (tkS s 4) 1) 3) 4) 4)), .int .u32 (rdNum (tkS (tkS (tkS (tkS (tkS (tkS s 4) 1) 3) 4) 4) 4))]) := Lib.hid (by show ([_, Value.int .u8 (num (tkB (tkS s 4).1 1)), Value.int .i32 (sgd (num (tkB (tkS (tkS s 4) 1).1 3)) 24), _, _, _, _] : List Value) = _; rw [HX1.out, HX3.out, hsg]; rfl)
        have hc2 : ¬ (8388608 ≤ X3) := by omega
        have ew4 : IntKind.i32.wrap X3 = X3 := i32_small (by omega)
        clear hsg
        go_wp2_with fail
        have J0 : Hid (RpE w (wr.alloc (.cells #[.int .u32 0, .int .u8 0, .int .i32 0, .int .u32 0, .int .u32 0, .int .u32 0, .int .u32 0] 143)) R B5 wr.heap.size (.slice ob B.length cb) B (.cells #[.int .u8 k, .int .u8 200, .slice ob B.length cb] 35) (.cells #[.bool false, .int .u32 0, .int .u32 0, .int .u32 0, .int .u32 0, .int .u32 0, .int .u32 0, .slice none 0 0] 41) [.bool true, .int .u32 A1, .int .u32 A2, .int .u32 A3, .int .u32 A4, .int .u32 A5, .int .u32 A6] [.int .u32 0, .int .u8 0, .int .i32 0, .int .u32 0, .int .u32 0, .int .u32 0, .int .u32 0] v bl s) := Lib.hid (RpE.new HJ.out _ _ rfl)
        generalize wr.alloc (.cells #[.int .u32 0, .int .u8 0, .int .i32 0, .int .u32 0, .int .u32 0, .int .u32 0, .int .u32 0] 143) = x0 at *
        generalize wr.heap.size = B7 at *
        (with_reducible refine (num08_any J0.out.d.rd).mono ?_)
        rintro e y0 ⟨rfl, r0, a0⟩
        have K0 := Lib.hid (J0.out.read r0 a0)
        have q0 := blk_cell K0.out.b7 0 (v := .int .u32 0) rfl
        have z0 := blk_free K0.out.b7 0
        clear J0 r0 a0
        go_wp2_with fail
        have J1 : Hid (RpE w (y0.setCell ⟨B7, 0, none⟩ (.int .u32 (rdNum s))) R B5 B7 (.slice ob B.length cb) B (.cells #[.int .u8 k, .int .u8 200, .slice ob B.length cb] 35) (.cells #[.bool false, .int .u32 0, .int .u32 0, .int .u32 0, .int .u32 0, .int .u32 0, .int .u32 0, .slice none 0 0] 41) [.bool true, .int .u32 A1, .int .u32 A2, .int .u32 A3, .int .u32 A4, .int .u32 A5, .int .u32 A6] [.int .u32 (rdNum s), .int .u8 0, .int .i32 0, .int .u32 0, .int .u32 0, .int .u32 0, .int .u32 0] v bl (tkS s 4)) := Lib.hid (K0.out.set 0 _)
        clear K0 q0 z0
        generalize y0.setCell ⟨B7, 0, none⟩ (.int .u32 (rdNum s)) = x1 at *
        (with_reducible refine (RNum_any J1.out.d.rd 1 (by decide)).mono ?_)
        rintro e y1 ⟨rfl, r1, a1⟩
        rw [HX1.out]
        have K1 := Lib.hid (J1.out.read r1 a1)
        have q1 := blk_cell K1.out.b7 1 (v := .int .u8 0) rfl
        have z1 := blk_free K1.out.b7 1
        clear J1 r1 a1
        go_wp2_with fail
        have J2 : Hid (RpE w (y1.setCell ⟨B7, 1, none⟩ (.int .u8 X1)) R B5 B7 (.slice ob B.length cb) B (.cells #[.int .u8 k, .int .u8 200, .slice ob B.length cb] 35) (.cells #[.bool false, .int .u32 0, .int .u32 0, .int .u32 0, .int .u32 0, .int .u32 0, .int .u32 0, .slice none 0 0] 41) [.bool true, .int .u32 A1, .int .u32 A2, .int .u32 A3, .int .u32 A4, .int .u32 A5, .int .u32 A6] [.int .u32 (rdNum s), .int .u8 X1, .int .i32 0, .int .u32 0, .int .u32 0, .int .u32 0, .int .u32 0] v bl (tkS (tkS s 4) 1)) := Lib.hid (K1.out.set 1 _)
        clear K1 q1 z1
        generalize y1.setCell ⟨B7, 1, none⟩ (.int .u8 X1) = x2 at *
        (with_reducible refine (RNum_any J2.out.d.rd 3 (by decide)).mono ?_)
        rintro e y2 ⟨rfl, r2, a2⟩
        rw [HX3.out]
        have K2 := Lib.hid (J2.out.read r2 a2)
        have q2 := blk_cell K2.out.b7 2 (v := .int .i32 0) rfl
        have z2 := blk_free K2.out.b7 2
        clear J2 r2 a2
        go_wp2_with fail
        have J3 : Hid (RpE w (y2.setCell ⟨B7, 2, none⟩ (.int .i32 X3)) R B5 B7 (.slice ob B.length cb) B (.cells #[.int .u8 k, .int .u8 200, .slice ob B.length cb] 35) (.cells #[.bool false, .int .u32 0, .int .u32 0, .int .u32 0, .int .u32 0, .int .u32 0, .int .u32 0, .slice none 0 0] 41) [.bool true, .int .u32 A1, .int .u32 A2, .int .u32 A3, .int .u32 A4, .int .u32 A5, .int .u32 A6] [.int .u32 (rdNum s), .int .u8 X1, .int .i32 X3, .int .u32 0, .int .u32 0, .int .u32 0, .int .u32 0] v bl (tkS (tkS (tkS s 4) 1) 3)) := Lib.hid (K2.out.set 2 _)
        clear K2 q2 z2
        generalize y2.setCell ⟨B7, 2, none⟩ (.int .i32 X3) = x3 at *
        (with_reducible refine (num08_any J3.out.d.rd).mono ?_)
        rintro e y3 ⟨rfl, r3, a3⟩
        have K3 := Lib.hid (J3.out.read r3 a3)
        have q3 := blk_cell K3.out.b7 3 (v := .int .u32 0) rfl
        have z3 := blk_free K3.out.b7 3
        clear J3 r3 a3
        go_wp2_with fail
        have J4 : Hid (RpE w (y3.setCell ⟨B7, 3, none⟩ (.int .u32 (rdNum (tkS (tkS (tkS s 4) 1) 3)))) R B5 B7 (.slice ob B.length cb) B (.cells #[.int .u8 k, .int .u8 200, .slice ob B.length cb] 35) (.cells #[.bool false, .int .u32 0, .int .u32 0, .int .u32 0, .int .u32 0, .int .u32 0, .int .u32 0, .slice none 0 0] 41) [.bool true, .int .u32 A1, .int .u32 A2, .int .u32 A3, .int .u32 A4, .int .u32 A5, .int .u32 A6] [.int .u32 (rdNum s), .int .u8 X1, .int .i32 X3, .int .u32 (rdNum (tkS (tkS (tkS s 4) 1) 3)), .int .u32 0, .int .u32 0, .int .u32 0] v bl (tkS (tkS (tkS (tkS s 4) 1) 3) 4)) := Lib.hid (K3.out.set 3 _)
        clear K3 q3 z3
        generalize y3.setCell ⟨B7, 3, none⟩ (.int .u32 (rdNum (tkS (tkS (tkS s 4) 1) 3))) = x4 at *
        (with_reducible refine (num08_any J4.out.d.rd).mono ?_)
        rintro e y4 ⟨rfl, r4, a4⟩
        have K4 := Lib.hid (J4.out.read r4 a4)
        have q4 := blk_cell K4.out.b7 4 (v := .int .u32 0) rfl
        have z4 := blk_free K4.out.b7 4
        clear J4 r4 a4
        go_wp2_with fail
        have J5 : Hid (RpE w (y4.setCell ⟨B7, 4, none⟩ (.int .u32 (rdNum (tkS (tkS (tkS (tkS s 4) 1) 3) 4)))) R B5 B7 (.slice ob B.length cb) B (.cells #[.int .u8 k, .int .u8 200, .slice ob B.length cb] 35) (.cells #[.bool false, .int .u32 0, .int .u32 0, .int .u32 0, .int .u32 0, .int .u32 0, .int .u32 0, .slice none 0 0] 41) [.bool true, .int .u32 A1, .int .u32 A2, .int .u32 A3, .int .u32 A4, .int .u32 A5, .int .u32 A6] [.int .u32 (rdNum s), .int .u8 X1, .int .i32 X3, .int .u32 (rdNum (tkS (tkS (tkS s 4) 1) 3)), .int .u32 (rdNum (tkS (tkS (tkS (tkS s 4) 1) 3) 4)), .int .u32 0, .int .u32 0] v bl (tkS (tkS (tkS (tkS (tkS s 4) 1) 3) 4) 4)) := Lib.hid (K4.out.set 4 _)
        clear K4 q4 z4
        generalize y4.setCell ⟨B7, 4, none⟩ (.int .u32 (rdNum (tkS (tkS (tkS (tkS s 4) 1) 3) 4))) = x5 at *
        (with_reducible refine (num08_any J5.out.d.rd).mono ?_)
        rintro e y5 ⟨rfl, r5, a5⟩
        have K5 := Lib.hid (J5.out.read r5 a5)
        have q5 := blk_cell K5.out.b7 5 (v := .int .u32 0) rfl
        have z5 := blk_free K5.out.b7 5
        clear J5 r5 a5
        go_wp2_with fail
        have J6 : Hid (RpE w (y5.setCell ⟨B7, 5, none⟩ (.int .u32 (rdNum (tkS (tkS (tkS (tkS (tkS s 4) 1) 3) 4) 4)))) R B5 B7 (.slice ob B.length cb) B (.cells #[.int .u8 k, .int .u8 200, .slice ob B.length cb] 35) (.cells #[.bool false, .int .u32 0, .int .u32 0, .int .u32 0, .int .u32 0, .int .u32 0, .int .u32 0, .slice none 0 0] 41) [.bool true, .int .u32 A1, .int .u32 A2, .int .u32 A3, .int .u32 A4, .int .u32 A5, .int .u32 A6] [.int .u32 (rdNum s), .int .u8 X1, .int .i32 X3, .int .u32 (rdNum (tkS (tkS (tkS s 4) 1) 3)), .int .u32 (rdNum (tkS (tkS (tkS (tkS s 4) 1) 3) 4)), .int .u32 (rdNum (tkS (tkS (tkS (tkS (tkS s 4) 1) 3) 4) 4)), .int .u32 0] v bl (tkS (tkS (tkS (tkS (tkS (tkS s 4) 1) 3) 4) 4) 4)) := Lib.hid (K5.out.set 5 _)
        clear K5 q5 z5
        generalize y5.setCell ⟨B7, 5, none⟩ (.int .u32 (rdNum (tkS (tkS (tkS (tkS (tkS s 4) 1) 3) 4) 4))) = x6 at *
        (with_reducible refine (num08_any J6.out.d.rd).mono ?_)
        rintro e y6 ⟨rfl, r6, a6⟩
        have K6 := Lib.hid (J6.out.read r6 a6)
        have q6 := blk_cell K6.out.b7 6 (v := .int .u32 0) rfl
        have z6 := blk_free K6.out.b7 6
        clear J6 r6 a6
        have J7 : Hid (RpE w (y6.setCell ⟨B7, 6, none⟩ (.int .u32 (rdNum (tkS (tkS (tkS (tkS (tkS (tkS s 4) 1) 3) 4) 4) 4)))) R B5 B7 (.slice ob B.length cb) B (.cells #[.int .u8 k, .int .u8 200, .slice ob B.length cb] 35) (.cells #[.bool false, .int .u32 0, .int .u32 0, .int .u32 0, .int .u32 0, .int .u32 0, .int .u32 0, .slice none 0 0] 41) [.bool true, .int .u32 A1, .int .u32 A2, .int .u32 A3, .int .u32 A4, .int .u32 A5, .int .u32 A6] [.int .u32 (rdNum s), .int .u8 X1, .int .i32 X3, .int .u32 (rdNum (tkS (tkS (tkS s 4) 1) 3)), .int .u32 (rdNum (tkS (tkS (tkS (tkS s 4) 1) 3) 4)), .int .u32 (rdNum (tkS (tkS (tkS (tkS (tkS s 4) 1) 3) 4) 4)), .int .u32 (rdNum (tkS (tkS (tkS (tkS (tkS (tkS s 4) 1) 3) 4) 4) 4))] v bl (tkS (tkS (tkS (tkS (tkS (tkS (tkS s 4) 1) 3) 4) 4) 4) 4)) := Lib.hid (K6.out.set 6 _)
        have c57 := blk_cell J7.out.d.b5 7 (v := v) rfl
        obtain ⟨k0, k1, k2, k3, k4, k5, k6⟩ := cells7 J7.out.b7
        have J8 := Lib.hid (J7.out.d.on (More.alloc (y6.setCell ⟨B7, 6, none⟩ (.int .u32 (rdNum (tkS (tkS (tkS (tkS (tkS (tkS s 4) 1) 3) 4) 4) 4)))) (.cells #[.int .u32 (rdNum s), .int .u8 X1, .int .i32 X3, .int .u32 (rdNum (tkS (tkS (tkS s 4) 1) 3)), .int .u32 (rdNum (tkS (tkS (tkS (tkS s 4) 1) 3) 4)), .int .u32 (rdNum (tkS (tkS (tkS (tkS (tkS s 4) 1) 3) 4) 4)), .int .u32 (rdNum (tkS (tkS (tkS (tkS (tkS (tkS s 4) 1) 3) 4) 4) 4))] 143)))
        go_wp2_with (at_builtin; refine wpList_append_row _ rfl (.tmp 93) (.tmp 95) 39 rfl (B5 + 1) 143 j0 (.agg #[.int .u32 0, .int .u8 0, .int .i32 0, .int .u32 0, .int .u32 0, .int .u32 0, .int .u32 0]) 7 28 Try.underlying39 hi hz0 hz1 hz2 rfl (by decide) v bl rfl J8.out.row y6.heap.size [.int .u32 (rdNum s), .int .u8 X1, .int .i32 X3, .int .u32 (rdNum (tkS (tkS (tkS s 4) 1) 3)), .int .u32 (rdNum (tkS (tkS (tkS (tkS s 4) 1) 3) 4)), .int .u32 (rdNum (tkS (tkS (tkS (tkS (tkS s 4) 1) 3) 4) 4)), .int .u32 (rdNum (tkS (tkS (tkS (tkS (tkS (tkS s 4) 1) 3) 4) 4) 4))] (readBlk s).1 rfl rfl (new_cells (by simp)) (by simp [Value.oneCell']) (fun _ _ => ⟨HCE.out.symm, OKB.out⟩) (fun b hb => hb.elim) (by decide) (by have := HL.out; omega) (by have := blk_lt J8.out.b5; omega) ?_; intro v10 w10 ho10 hg10 hb10; have J10 := Lib.hid (J8.out.put rfl ho10 hg10); have q7 : w10.cell? ⟨B5, 7, none⟩ = some v := blk_cell ((hg10.block B5 (blk_lt J8.out.b5) (fun e => by have := J8.out.row.ge e.symm; omega)).trans J8.out.b5) 7 rfl; have z7 : w10.frozen? ⟨B5, 7, none⟩ = false := blk_free ((hg10.block B5 (blk_lt J8.out.b5) (fun e => by have := J8.out.row.ge e.symm; omega)).trans J8.out.b5) 7; obtain ⟨o10, n10, c10, rfl, hz8, hz9⟩ := ho10.shape; clear hz8 hz9 ho10 hg10 hb10 c57 k0 k1 k2 k3 k4 k5 k6 q6 z6)
        go_roundw
        case rel => exact ⟨j + 1, by omega, by go_num, ⟨_, _, _, J10.out, by (have := HL.out; simp; omega), H1.out, H2.out⟩⟩
        case measure => simp [intOf]; omega
      · rw [if_neg hc] at hsg
        have HCE : Hid ((readBlk s).1.cells = [.int .u32 (rdNum s), .int .u8 X1, .int .i32 (X3 - 16777216), .int .u32 (rdNum (tkS (tkS (tkS s 4) 1) 3)), .int .u32 (rdNum (tkS (tkS (tkS (tkS s 4) 1) 3) 4)), .int .u32 (rdNum (tkS (tkS (tkS (tkS (tkS s 4) 1) 3) 4) 4)), .int .u32 (rdNum (tkS (tkS (tkS (tkS (tkS (tkS s 4) 1) 3) 4) 4) 4))]) := Lib.hid (by show ([_, Value.int .u8 (num (tkB (tkS s 4).1 1)), Value.int .i32 (sgd (num (tkB (tkS (tkS s 4) 1).1 3)) 24), _, _, _, _] : List Value) = _; rw [HX1.out, HX3.out, hsg]; rfl)
        have hc2 : 8388608 ≤ X3 := by omega
        have ew4 : IntKind.i32.wrap (X3 - 16777216) = X3 - 16777216 := i32_small (by omega)
        have ew5 : IntKind.i64.wrap (X3 - 16777216) = X3 - 16777216 := IntWalk.i64_in _ (by omega)
        clear hsg
        go_wp2_with fail
        have J0 : Hid (RpE w (wr.alloc (.cells #[.int .u32 0, .int .u8 0, .int .i32 0, .int .u32 0, .int .u32 0, .int .u32 0, .int .u32 0] 143)) R B5 wr.heap.size (.slice ob B.length cb) B (.cells #[.int .u8 k, .int .u8 200, .slice ob B.length cb] 35) (.cells #[.bool false, .int .u32 0, .int .u32 0, .int .u32 0, .int .u32 0, .int .u32 0, .int .u32 0, .slice none 0 0] 41) [.bool true, .int .u32 A1, .int .u32 A2, .int .u32 A3, .int .u32 A4, .int .u32 A5, .int .u32 A6] [.int .u32 0, .int .u8 0, .int .i32 0, .int .u32 0, .int .u32 0, .int .u32 0, .int .u32 0] v bl s) := Lib.hid (RpE.new HJ.out _ _ rfl)
        generalize wr.alloc (.cells #[.int .u32 0, .int .u8 0, .int .i32 0, .int .u32 0, .int .u32 0, .int .u32 0, .int .u32 0] 143) = x0 at *
        generalize wr.heap.size = B7 at *
        (with_reducible refine (num08_any J0.out.d.rd).mono ?_)
        rintro e y0 ⟨rfl, r0, a0⟩
        have K0 := Lib.hid (J0.out.read r0 a0)
        have q0 := blk_cell K0.out.b7 0 (v := .int .u32 0) rfl
        have z0 := blk_free K0.out.b7 0
        clear J0 r0 a0
        go_wp2_with fail
        have J1 : Hid (RpE w (y0.setCell ⟨B7, 0, none⟩ (.int .u32 (rdNum s))) R B5 B7 (.slice ob B.length cb) B (.cells #[.int .u8 k, .int .u8 200, .slice ob B.length cb] 35) (.cells #[.bool false, .int .u32 0, .int .u32 0, .int .u32 0, .int .u32 0, .int .u32 0, .int .u32 0, .slice none 0 0] 41) [.bool true, .int .u32 A1, .int .u32 A2, .int .u32 A3, .int .u32 A4, .int .u32 A5, .int .u32 A6] [.int .u32 (rdNum s), .int .u8 0, .int .i32 0, .int .u32 0, .int .u32 0, .int .u32 0, .int .u32 0] v bl (tkS s 4)) := Lib.hid (K0.out.set 0 _)
        clear K0 q0 z0
        generalize y0.setCell ⟨B7, 0, none⟩ (.int .u32 (rdNum s)) = x1 at *
        (with_reducible refine (RNum_any J1.out.d.rd 1 (by decide)).mono ?_)
        rintro e y1 ⟨rfl, r1, a1⟩
        rw [HX1.out]
        have K1 := Lib.hid (J1.out.read r1 a1)
        have q1 := blk_cell K1.out.b7 1 (v := .int .u8 0) rfl
        have z1 := blk_free K1.out.b7 1
        clear J1 r1 a1
        go_wp2_with fail
        have J2 : Hid (RpE w (y1.setCell ⟨B7, 1, none⟩ (.int .u8 X1)) R B5 B7 (.slice ob B.length cb) B (.cells #[.int .u8 k, .int .u8 200, .slice ob B.length cb] 35) (.cells #[.bool false, .int .u32 0, .int .u32 0, .int .u32 0, .int .u32 0, .int .u32 0, .int .u32 0, .slice none 0 0] 41) [.bool true, .int .u32 A1, .int .u32 A2, .int .u32 A3, .int .u32 A4, .int .u32 A5, .int .u32 A6] [.int .u32 (rdNum s), .int .u8 X1, .int .i32 0, .int .u32 0, .int .u32 0, .int .u32 0, .int .u32 0] v bl (tkS (tkS s 4) 1)) := Lib.hid (K1.out.set 1 _)
        clear K1 q1 z1
        generalize y1.setCell ⟨B7, 1, none⟩ (.int .u8 X1) = x2 at *
        (with_reducible refine (RNum_any J2.out.d.rd 3 (by decide)).mono ?_)
        rintro e y2 ⟨rfl, r2, a2⟩
        rw [HX3.out]
        have K2 := Lib.hid (J2.out.read r2 a2)
        have q2 := blk_cell K2.out.b7 2 (v := .int .i32 0) rfl
        have z2 := blk_free K2.out.b7 2
        clear J2 r2 a2
        go_wp2_with fail
        have J3 : Hid (RpE w (y2.setCell ⟨B7, 2, none⟩ (.int .i32 (X3 - 16777216))) R B5 B7 (.slice ob B.length cb) B (.cells #[.int .u8 k, .int .u8 200, .slice ob B.length cb] 35) (.cells #[.bool false, .int .u32 0, .int .u32 0, .int .u32 0, .int .u32 0, .int .u32 0, .int .u32 0, .slice none 0 0] 41) [.bool true, .int .u32 A1, .int .u32 A2, .int .u32 A3, .int .u32 A4, .int .u32 A5, .int .u32 A6] [.int .u32 (rdNum s), .int .u8 X1, .int .i32 (X3 - 16777216), .int .u32 0, .int .u32 0, .int .u32 0, .int .u32 0] v bl (tkS (tkS (tkS s 4) 1) 3)) := Lib.hid (K2.out.set 2 _)
        clear K2 q2 z2
        generalize y2.setCell ⟨B7, 2, none⟩ (.int .i32 (X3 - 16777216)) = x3 at *
        (with_reducible refine (num08_any J3.out.d.rd).mono ?_)
        rintro e y3 ⟨rfl, r3, a3⟩
        have K3 := Lib.hid (J3.out.read r3 a3)
        have q3 := blk_cell K3.out.b7 3 (v := .int .u32 0) rfl
        have z3 := blk_free K3.out.b7 3
        clear J3 r3 a3
        go_wp2_with fail
        have J4 : Hid (RpE w (y3.setCell ⟨B7, 3, none⟩ (.int .u32 (rdNum (tkS (tkS (tkS s 4) 1) 3)))) R B5 B7 (.slice ob B.length cb) B (.cells #[.int .u8 k, .int .u8 200, .slice ob B.length cb] 35) (.cells #[.bool false, .int .u32 0, .int .u32 0, .int .u32 0, .int .u32 0, .int .u32 0, .int .u32 0, .slice none 0 0] 41) [.bool true, .int .u32 A1, .int .u32 A2, .int .u32 A3, .int .u32 A4, .int .u32 A5, .int .u32 A6] [.int .u32 (rdNum s), .int .u8 X1, .int .i32 (X3 - 16777216), .int .u32 (rdNum (tkS (tkS (tkS s 4) 1) 3)), .int .u32 0, .int .u32 0, .int .u32 0] v bl (tkS (tkS (tkS (tkS s 4) 1) 3) 4)) := Lib.hid (K3.out.set 3 _)
        clear K3 q3 z3
        generalize y3.setCell ⟨B7, 3, none⟩ (.int .u32 (rdNum (tkS (tkS (tkS s 4) 1) 3))) = x4 at *
        (with_reducible refine (num08_any J4.out.d.rd).mono ?_)
        rintro e y4 ⟨rfl, r4, a4⟩
        have K4 := Lib.hid (J4.out.read r4 a4)
        have q4 := blk_cell K4.out.b7 4 (v := .int .u32 0) rfl
        have z4 := blk_free K4.out.b7 4
        clear J4 r4 a4
        go_wp2_with fail
        have J5 : Hid (RpE w (y4.setCell ⟨B7, 4, none⟩ (.int .u32 (rdNum (tkS (tkS (tkS (tkS s 4) 1) 3) 4)))) R B5 B7 (.slice ob B.length cb) B (.cells #[.int .u8 k, .int .u8 200, .slice ob B.length cb] 35) (.cells #[.bool false, .int .u32 0, .int .u32 0, .int .u32 0, .int .u32 0, .int .u32 0, .int .u32 0, .slice none 0 0] 41) [.bool true, .int .u32 A1, .int .u32 A2, .int .u32 A3, .int .u32 A4, .int .u32 A5, .int .u32 A6] [.int .u32 (rdNum s), .int .u8 X1, .int .i32 (X3 - 16777216), .int .u32 (rdNum (tkS (tkS (tkS s 4) 1) 3)), .int .u32 (rdNum (tkS (tkS (tkS (tkS s 4) 1) 3) 4)), .int .u32 0, .int .u32 0] v bl (tkS (tkS (tkS (tkS (tkS s 4) 1) 3) 4) 4)) := Lib.hid (K4.out.set 4 _)
        clear K4 q4 z4
        generalize y4.setCell ⟨B7, 4, none⟩ (.int .u32 (rdNum (tkS (tkS (tkS (tkS s 4) 1) 3) 4))) = x5 at *
        (with_reducible refine (num08_any J5.out.d.rd).mono ?_)
        rintro e y5 ⟨rfl, r5, a5⟩
        have K5 := Lib.hid (J5.out.read r5 a5)
        have q5 := blk_cell K5.out.b7 5 (v := .int .u32 0) rfl
        have z5 := blk_free K5.out.b7 5
        clear J5 r5 a5
        go_wp2_with fail
        have J6 : Hid (RpE w (y5.setCell ⟨B7, 5, none⟩ (.int .u32 (rdNum (tkS (tkS (tkS (tkS (tkS s 4) 1) 3) 4) 4)))) R B5 B7 (.slice ob B.length cb) B (.cells #[.int .u8 k, .int .u8 200, .slice ob B.length cb] 35) (.cells #[.bool false, .int .u32 0, .int .u32 0, .int .u32 0, .int .u32 0, .int .u32 0, .int .u32 0, .slice none 0 0] 41) [.bool true, .int .u32 A1, .int .u32 A2, .int .u32 A3, .int .u32 A4, .int .u32 A5, .int .u32 A6] [.int .u32 (rdNum s), .int .u8 X1, .int .i32 (X3 - 16777216), .int .u32 (rdNum (tkS (tkS (tkS s 4) 1) 3)), .int .u32 (rdNum (tkS (tkS (tkS (tkS s 4) 1) 3) 4)), .int .u32 (rdNum (tkS (tkS (tkS (tkS (tkS s 4) 1) 3) 4) 4)), .int .u32 0] v bl (tkS (tkS (tkS (tkS (tkS (tkS s 4) 1) 3) 4) 4) 4)) := Lib.hid (K5.out.set 5 _)
        clear K5 q5 z5
        generalize y5.setCell ⟨B7, 5, none⟩ (.int .u32 (rdNum (tkS (tkS (tkS (tkS (tkS s 4) 1) 3) 4) 4))) = x6 at *
        (with_reducible refine (num08_any J6.out.d.rd).mono ?_)
        rintro e y6 ⟨rfl, r6, a6⟩
        have K6 := Lib.hid (J6.out.read r6 a6)
        have q6 := blk_cell K6.out.b7 6 (v := .int .u32 0) rfl
        have z6 := blk_free K6.out.b7 6
        clear J6 r6 a6
        have J7 : Hid (RpE w (y6.setCell ⟨B7, 6, none⟩ (.int .u32 (rdNum (tkS (tkS (tkS (tkS (tkS (tkS s 4) 1) 3) 4) 4) 4)))) R B5 B7 (.slice ob B.length cb) B (.cells #[.int .u8 k, .int .u8 200, .slice ob B.length cb] 35) (.cells #[.bool false, .int .u32 0, .int .u32 0, .int .u32 0, .int .u32 0, .int .u32 0, .int .u32 0, .slice none 0 0] 41) [.bool true, .int .u32 A1, .int .u32 A2, .int .u32 A3, .int .u32 A4, .int .u32 A5, .int .u32 A6] [.int .u32 (rdNum s), .int .u8 X1, .int .i32 (X3 - 16777216), .int .u32 (rdNum (tkS (tkS (tkS s 4) 1) 3)), .int .u32 (rdNum (tkS (tkS (tkS (tkS s 4) 1) 3) 4)), .int .u32 (rdNum (tkS (tkS (tkS (tkS (tkS s 4) 1) 3) 4) 4)), .int .u32 (rdNum (tkS (tkS (tkS (tkS (tkS (tkS s 4) 1) 3) 4) 4) 4))] v bl (tkS (tkS (tkS (tkS (tkS (tkS (tkS s 4) 1) 3) 4) 4) 4) 4)) := Lib.hid (K6.out.set 6 _)
        have c57 := blk_cell J7.out.d.b5 7 (v := v) rfl
        obtain ⟨k0, k1, k2, k3, k4, k5, k6⟩ := cells7 J7.out.b7
        have J8 := Lib.hid (J7.out.d.on (More.alloc (y6.setCell ⟨B7, 6, none⟩ (.int .u32 (rdNum (tkS (tkS (tkS (tkS (tkS (tkS s 4) 1) 3) 4) 4) 4)))) (.cells #[.int .u32 (rdNum s), .int .u8 X1, .int .i32 (X3 - 16777216), .int .u32 (rdNum (tkS (tkS (tkS s 4) 1) 3)), .int .u32 (rdNum (tkS (tkS (tkS (tkS s 4) 1) 3) 4)), .int .u32 (rdNum (tkS (tkS (tkS (tkS (tkS s 4) 1) 3) 4) 4)), .int .u32 (rdNum (tkS (tkS (tkS (tkS (tkS (tkS s 4) 1) 3) 4) 4) 4))] 143)))
        go_wp2_with (at_builtin; refine wpList_append_row _ rfl (.tmp 93) (.tmp 95) 39 rfl (B5 + 1) 143 j0 (.agg #[.int .u32 0, .int .u8 0, .int .i32 0, .int .u32 0, .int .u32 0, .int .u32 0, .int .u32 0]) 7 28 Try.underlying39 hi hz0 hz1 hz2 rfl (by decide) v bl rfl J8.out.row y6.heap.size [.int .u32 (rdNum s), .int .u8 X1, .int .i32 (X3 - 16777216), .int .u32 (rdNum (tkS (tkS (tkS s 4) 1) 3)), .int .u32 (rdNum (tkS (tkS (tkS (tkS s 4) 1) 3) 4)), .int .u32 (rdNum (tkS (tkS (tkS (tkS (tkS s 4) 1) 3) 4) 4)), .int .u32 (rdNum (tkS (tkS (tkS (tkS (tkS (tkS s 4) 1) 3) 4) 4) 4))] (readBlk s).1 rfl rfl (new_cells (by simp)) (by simp [Value.oneCell']) (fun _ _ => ⟨HCE.out.symm, OKB.out⟩) (fun b hb => hb.elim) (by decide) (by have := HL.out; omega) (by have := blk_lt J8.out.b5; omega) ?_; intro v10 w10 ho10 hg10 hb10; have J10 := Lib.hid (J8.out.put rfl ho10 hg10); have q7 : w10.cell? ⟨B5, 7, none⟩ = some v := blk_cell ((hg10.block B5 (blk_lt J8.out.b5) (fun e => by have := J8.out.row.ge e.symm; omega)).trans J8.out.b5) 7 rfl; have z7 : w10.frozen? ⟨B5, 7, none⟩ = false := blk_free ((hg10.block B5 (blk_lt J8.out.b5) (fun e => by have := J8.out.row.ge e.symm; omega)).trans J8.out.b5) 7; obtain ⟨o10, n10, c10, rfl, hz8, hz9⟩ := ho10.shape; clear hz8 hz9 ho10 hg10 hb10 c57 k0 k1 k2 k3 k4 k5 k6 q6 z6)
        go_roundw
        case rel => exact ⟨j + 1, by omega, by go_num, ⟨_, _, _, J10.out, by (have := HL.out; simp; omega), H1.out, H2.out⟩⟩
        case measure => simp [intOf]; omega
    · obtain rfl : j = kn := by omega
      rw [Nat.sub_self] at hr1 hr2
      have hr1 : (readBls j s0).1 = bl := by rw [hr1]; exact List.append_nil _
      have hr2 : (readBls j s0).2 = s := hr2
      have hDD := HD.out
      rw [hr1, hr2] at hDD
      unfold doneR at hDD
      have hjk : ¬ (j : Int) < k := by rw [HKK.out]; omega
      clear hr1 hr2
      go_wp2_with fail
      (with_reducible refine (REnd_any HJ.out.rd).mono ?_)
      rintro e x1 ⟨rfl, m1⟩
      have HJ1 := Lib.hid (HJ.out.on m1)
      clear m1 pk HJ
      by_cases he : endS s = 0
      · rw [if_pos he] at hDD
        have HDD := Lib.hid hDD
        rw [he]
        obtain ⟨g0, g1, g2, g3, g4, g5, g6, g7⟩ := cells8 HJ1.out.b1
        obtain ⟨f0, f1, f2, f3, f4, f5, f6, f7⟩ := free8 HJ1.out.b1
        obtain ⟨ov, nv, cv, rfl, hz8, hz9⟩ := HJ1.out.row.shape
        obtain ⟨p0, p1, p2, p3, p4, p5, p6, p7⟩ := cells8 HJ1.out.b5
        clear hDD hz8 hz9 he
        go_wp2
        have fin := st8_blk HJ1.out.b1 (.bool true) (.int .u32 A1) (.int .u32 A2) (.int .u32 A3) (.int .u32 A4) (.int .u32 A5) (.int .u32 A6) (.slice ov nv cv)
        have a8 := Away.st8 x1 (w.heap.size + 1) (.bool true) (.int .u32 A1) (.int .u32 A2) (.int .u32 A3) (.int .u32 A4) (.int .u32 A5) (.int .u32 A6) (.slice ov nv cv)
        have sf := slP_off (HJ1.out.row.sl (by decide)) (fun b hb e => by have := HJ1.out.row.ge hb; have := HJ1.out.h1; have := HJ1.out.h2; omega) a8
        have mf := Away.to_more HJ1.out.more a8 (fun b e => by omega)
        obtain ⟨WF, hWF⟩ : ∃ WF, ((((((((x1.setCell ⟨w.heap.size + 1, 0, none⟩ (.bool true)).setCell ⟨w.heap.size + 1, 1, none⟩ (.int .u32 A1)).setCell ⟨w.heap.size + 1, 2, none⟩ (.int .u32 A2)).setCell ⟨w.heap.size + 1, 3, none⟩ (.int .u32 A3)).setCell ⟨w.heap.size + 1, 4, none⟩ (.int .u32 A4)).setCell ⟨w.heap.size + 1, 5, none⟩ (.int .u32 A5)).setCell ⟨w.heap.size + 1, 6, none⟩ (.int .u32 A6)).setCell ⟨w.heap.size + 1, 7, none⟩ (.slice ov nv cv)) = WF := ⟨_, rfl⟩
        rw [hWF] at fin sf mf ⊢
        clear hWF a8
        obtain ⟨r0, r1, r2, r3, r4, r5, r6, r7⟩ := cells8 fin
        (refine bodyPost_ret (v := .tuple #[.agg #[.bool true, .int .u32 A1, .int .u32 A2, .int .u32 A3, .int .u32 A4, .int .u32 A5, .int .u32 A6, .slice ov nv cv], .int .i64 0]) ?rr1 rfl ?_; (case rr1 => (simp [results, Try.results20, go_sem, r0, r1, r2, r3, r4, r5, r6, r7])))
        refine ⟨⟨.slice ov nv cv, by first | (rw [← HDD.out]; done) | (rw [← HDD.out]; rfl), ?_⟩, mf⟩
        rw [← HDD.out]
        exact sf
      · rw [if_neg he] at hDD
        have HDD := Lib.hid hDD
        have heb : (endS s != 0) = true := by simpa using he
        clear hDD he
        go_wp2_with fail
        (with_reducible refine (REnd_any HJ1.out.rd).mono ?_)
        rintro e x2 ⟨rfl, m2⟩
        have HJ2 := Lib.hid (HJ1.out.on m2)
        clear m2 HJ1
        obtain ⟨g0, g1, g2, g3, g4, g5, g6, g7⟩ := cells8 HJ2.out.b1
        obtain ⟨f0, f1, f2, f3, f4, f5, f6, f7⟩ := free8 HJ2.out.b1
        go_wp2
        have fin := st8_blk HJ2.out.b1 (.bool false) (.int .u32 0) (.int .u32 0) (.int .u32 0) (.int .u32 0) (.int .u32 0) (.int .u32 0) (.slice none 0 0)
        have a8 := Away.st8 x2 (w.heap.size + 1) (.bool false) (.int .u32 0) (.int .u32 0) (.int .u32 0) (.int .u32 0) (.int .u32 0) (.int .u32 0) (.slice none 0 0)
        have mf := Away.to_more HJ2.out.more a8 (fun b e => by omega)
        obtain ⟨WF, hWF⟩ : ∃ WF, ((((((((x2.setCell ⟨w.heap.size + 1, 0, none⟩ (.bool false)).setCell ⟨w.heap.size + 1, 1, none⟩ (.int .u32 0)).setCell ⟨w.heap.size + 1, 2, none⟩ (.int .u32 0)).setCell ⟨w.heap.size + 1, 3, none⟩ (.int .u32 0)).setCell ⟨w.heap.size + 1, 4, none⟩ (.int .u32 0)).setCell ⟨w.heap.size + 1, 5, none⟩ (.int .u32 0)).setCell ⟨w.heap.size + 1, 6, none⟩ (.int .u32 0)).setCell ⟨w.heap.size + 1, 7, none⟩ (.slice none 0 0)) = WF := ⟨_, rfl⟩
        rw [hWF] at fin mf ⊢
        clear hWF a8
        obtain ⟨r0, r1, r2, r3, r4, r5, r6, r7⟩ := cells8 fin
        (refine bodyPost_ret (v := .tuple #[.agg #[.bool false, .int .u32 0, .int .u32 0, .int .u32 0, .int .u32 0, .int .u32 0, .int .u32 0, .slice none 0 0], .int .i64 (endS s)]) ?rr2 rfl ?_; (case rr2 => (simp [results, Try.results20, go_sem, r0, r1, r2, r3, r4, r5, r6, r7])))
        refine ⟨⟨.slice none 0 0, by first | (rw [← HDD.out]; done) | (rw [← HDD.out]; rfl), ?_⟩, mf⟩
        rw [← HDD.out]
        exact SlP.nil _ _ _
set_option maxHeartbeats 8000000 in
theorem RRead08_201 {w : World} (kn : Nat) (B : List Int) (ob : Option Addr) (cb : Nat) (D : Rep × Int) (SL : Hid (SlI .u8 w (.slice ob B.length cb) B)) (HB : Hid (Byt B)) (hl : B.length ≤ 1000000) (hk31 : kn ≤ 31) (HR : Hid (rightB ((kn : Int), 201, B, ()) = true))
    (s0 : RdS) (HS0 : Hid (s0 = (tkS (B, 0) 4))) (HD : Hid (doneR ⟨false, rdNum (B, 0), inf0, (readBls kn s0).1⟩ (readBls kn s0).2 = D)) :
    Calls Try.prog 20 #[.agg #[.int .u8 (kn : Int), .int .u8 201, .slice ob B.length cb]] w fun e w' => (∃ vb, e = .returned (.tuple #[.agg #[.bool D.1.snd, .int .u32 D.1.src, .int .u32 D.1.inf.sec, .int .u32 D.1.inf.frac, .int .u32 D.1.inf.stamp, .int .u32 D.1.inf.pkts, .int .u32 D.1.inf.octs, vb], .int .i64 D.2]) ∧ SlP 7 RBlk w' vb D.1.bl) ∧ More w w' := by
  obtain ⟨j0, hi, hz0, hz1, hz2⟩ := info_parts (P := Try.prog) (e := 143) (z := .agg #[.int .u32 0, .int .u8 0, .int .i32 0, .int .u32 0, .int .u32 0, .int .u32 0, .int .u32 0]) (size := 7) (bytes := 28) (by kernel_rfl)
  obtain ⟨k, hkk⟩ : ∃ k : Int, k = (kn : Int) := ⟨_, rfl⟩
  rw [← hkk] at HR ⊢
  have HKK := Lib.hid hkk
  have hkw : IntKind.i64.wrap k = k := IntWalk.i64_in _ (by omega)
  have hk0 : 0 ≤ k := by omega
  have hk1 : k ≤ 31 := by omega
  clear hkk
  have HRT := Lib.hid (RRight07_any (w := (w.alloc (.cells #[.int .u8 k, .int .u8 201, .slice ob B.length cb] 35)).alloc (.cells #[.bool false, .int .u32 0, .int .u32 0, .int .u32 0, .int .u32 0, .int .u32 0, .int .u32 0, .slice none 0 0] 41)) (k, 201, B, ()) (SL.out.keep ((More.alloc _ _).al _)))
  have A0 := Lib.hid (blk_alloc (blk_new w (.cells #[.int .u8 k, .int .u8 201, .slice ob B.length cb] 35)) (.cells #[.bool false, .int .u32 0, .int .u32 0, .int .u32 0, .int .u32 0, .int .u32 0, .int .u32 0, .slice none 0 0] 41))
  have B0 := Lib.hid (blk_new2 (w := w.alloc (.cells #[.int .u8 k, .int .u8 201, .slice ob B.length cb] 35)) (n := w.heap.size + 1) (o := (.cells #[.bool false, .int .u32 0, .int .u32 0, .int .u32 0, .int .u32 0, .int .u32 0, .int .u32 0, .slice none 0 0] 41)) (by simp))
  have hpp : (Value.pointer (some ⟨0, 0, none⟩)) = (Value.pointer (some ⟨0, 0, none⟩)) := rfl
  clear hpp
  go_enter Try.func20, Try.ntmps20
  go_wp2_with (go_at_call 82; ((with_reducible refine (HRT.out).mono ?_); rintro e w3 ⟨rfl, m3⟩; rw [HR.out]; have A3 := Lib.hid (blk_more m3 A0.out); have B3 := Lib.hid (blk_more m3 B0.out); have M3 := Lib.hid (((More.alloc w (.cells #[.int .u8 k, .int .u8 201, .slice ob B.length cb] 35)).al (.cells #[.bool false, .int .u32 0, .int .u32 0, .int .u32 0, .int .u32 0, .int .u32 0, .int .u32 0, .slice none 0 0] 41)).trans m3); have p1 := blk_cell A3.out 1 (v := .int .u8 201) rfl; have p2 := blk_cell A3.out 2 (v := .slice ob B.length cb) rfl; have p3 := blk_cell (blk_alloc A3.out (.cells #[.slice ob B.length cb, .int .i64 0, .int .i64 0] 155)) 1 (v := .int .u8 201) rfl; clear m3))
  have J0 : Hid (RpD w ((w3.alloc (.cells #[.slice ob B.length cb, .int .i64 0, .int .i64 0] 155)).alloc (.cells #[.bool false, .int .u32 0, .int .u32 0, .int .u32 0, .int .u32 0, .int .u32 0, .int .u32 0, .slice none 0 0] 41)) w3.heap.size (w3.heap.size + 1) (.slice ob B.length cb) B (.cells #[.int .u8 k, .int .u8 201, .slice ob B.length cb] 35) (.cells #[.bool false, .int .u32 0, .int .u32 0, .int .u32 0, .int .u32 0, .int .u32 0, .int .u32 0, .slice none 0 0] 41) [.bool false, .int .u32 0, .int .u32 0, .int .u32 0, .int .u32 0, .int .u32 0, .int .u32 0] (.slice none 0 0) [] (B, 0)) := Lib.hid ⟨⟨0, blk_alloc (blk_new w3 _) _, SL.out.keep ((M3.out.al _).al _), hl, HB.out, Nat.zero_le _, rfl⟩, SL.out, blk_alloc (blk_alloc A3.out _) _, blk_alloc (blk_alloc B3.out _) _, blk_new2 (by simp), RowP.nil _ _ _ _ _ _, (M3.out.al _).al _, blk_lt B3.out, by omega⟩
  clear p1 p2 p3 A0 B0 HRT HR
  have hR0 : w.heap.size + 1 < w3.heap.size := blk_lt B3.out
  clear A3 B3 M3
  generalize (w3.alloc (.cells #[.slice ob B.length cb, .int .i64 0, .int .i64 0] 155)).alloc (.cells #[.bool false, .int .u32 0, .int .u32 0, .int .u32 0, .int .u32 0, .int .u32 0, .int .u32 0, .slice none 0 0] 41) = u0 at *
  obtain ⟨B5, hB5⟩ : ∃ B5, B5 = w3.heap.size + 1 := ⟨_, rfl⟩
  rw [← hB5] at J0 ⊢
  clear hB5
  generalize w3.heap.size = R at *
  (with_reducible refine (num08_any J0.out.rd).mono ?_)
  rintro e t0 ⟨rfl, r0, a0⟩
  have K0 := Lib.hid (J0.out.read r0 a0)
  have q0 := blk_cell K0.out.b5 1 (v := .int .u32 0) rfl
  have z0 := blk_free K0.out.b5 1
  have g0 := blk_cell K0.out.b5 0 (v := .bool false) rfl
  clear J0 r0 a0
  go_wp2_with fail
  have J1 : Hid (RpD w (t0.setCell ⟨B5, 1, none⟩ (.int .u32 (rdNum (B, 0)))) R B5 (.slice ob B.length cb) B (.cells #[.int .u8 k, .int .u8 201, .slice ob B.length cb] 35) (.cells #[.bool false, .int .u32 0, .int .u32 0, .int .u32 0, .int .u32 0, .int .u32 0, .int .u32 0, .slice none 0 0] 41) [.bool false, .int .u32 (rdNum (B, 0)), .int .u32 0, .int .u32 0, .int .u32 0, .int .u32 0, .int .u32 0] (.slice none 0 0) [] (tkS (B, 0) 4)) := Lib.hid (K0.out.set 1 (by simp) _)
  clear K0 q0 z0 g0
  generalize t0.setCell ⟨B5, 1, none⟩ (.int .u32 (rdNum (B, 0))) = u1 at *
  have HJL := J1
  clear J1
  rw [← HS0.out] at HJL
  clear HS0
  generalize rdNum (B, 0) = A1 at *
  go_loopw [6] (fun ix wr => ∃ j : Nat, j ≤ kn ∧ ix = .int .i64 (j : Int) ∧ (∃ v bl s, RpD w wr R B5 (.slice ob B.length cb) B (.cells #[.int .u8 k, .int .u8 201, .slice ob B.length cb] 35) (.cells #[.bool false, .int .u32 0, .int .u32 0, .int .u32 0, .int .u32 0, .int .u32 0, .int .u32 0, .slice none 0 0] 41) [.bool false, .int .u32 A1, .int .u32 0, .int .u32 0, .int .u32 0, .int .u32 0, .int .u32 0] v bl s ∧ bl.length = j ∧ (readBls kn s0).1 = bl ++ (readBls (kn - j) s).1 ∧ (readBls kn s0).2 = (readBls (kn - j) s).2)) (fun ix _ => kn - (intOf ix).toNat)
  case atStart => exact ⟨0, by omega, rfl, ⟨_, _, _, HJL.out, rfl, by simp, rfl⟩⟩
  case round =>
    obtain ⟨j, hj, rfl, ⟨v, bl, s, hJ, hlen, hr1, hr2⟩⟩ := hrel
    have HJ := Lib.hid hJ
    have HL := Lib.hid hlen
    have pk := blk_cell hJ.b0 0 (v := .int .u8 k) rfl
    clear hJ hlen
    by_cases hlt : j < kn
    · have hjk : (j : Int) < k := by rw [HKK.out]; omega
      have e1 : kn - j = (kn - (j + 1)) + 1 := by omega
      have hst := readBls_step (kn - (j + 1)) s bl
      rw [e1, hst.1] at hr1
      rw [e1, hst.2] at hr2
      have H1 := Lib.hid hr1
      have H2 := Lib.hid hr2
      have OKB := Lib.hid (readBlk_ok (s := s) HJ.out.rd.byt)
      clear hr1 hr2 hst e1
      have hb0 := HJ.out.rd.byt
      have b1 := num_u8x (s := tkS s 4) (tkS_byt hb0 4)
      have b3 := num_u24 (s := tkS (tkS s 4) 1) (tkS_byt (tkS_byt hb0 4) 1)
      obtain ⟨X1, hX1⟩ : ∃ X, num (tkB (tkS s 4).1 1) = X := ⟨_, rfl⟩
      obtain ⟨X3, hX3⟩ : ∃ X, num (tkB (tkS (tkS s 4) 1).1 3) = X := ⟨_, rfl⟩
      rw [hX1] at b1
      rw [hX3] at b3
      obtain ⟨b10, b11⟩ := b1
      obtain ⟨b30, b31⟩ := b3
      have HX1 := Lib.hid hX1
      have HX3 := Lib.hid hX3
      have hsg := sgd24x b30 b31
      clear hX1 hX3 hb0
      have ew1 : IntKind.u8.wrap X1 = X1 := IntWalk.u8_in _ (by omega)
      have ew3 : IntKind.i64.wrap X3 = X3 := IntWalk.i64_in _ (by omega)
      by_cases hc : X3 < 8388608
      · rw [if_pos hc] at hsg
        have HCE : Hid ((readBlk s).1.cells = [.int .u32 (rdNum s), .int .u8 X1, .int .i32 X3, .int .u32 (rdNum (tkS (tkS (tkS s 4) 1) 3)), .int .u32 (rdNum (tkS (tkS (tkS (tkS s 4) 1) 3) 4)), .int .u32 (rdNum (tkS (tkS (tkS (tkS (tkS s 4) 1) 3) 4) 4)), .int .u32 (rdNum (tkS (tkS (tkS (tkS (tkS (tkS s 4) 1) 3) 4) 4) 4))]) := Lib.hid (by show ([_, Value.int .u8 (num (tkB (tkS s 4).1 1)), Value.int .i32 (sgd (num (tkB (tkS (tkS s 4) 1).1 3)) 24), _, _, _, _] : List Value) = _; rw [HX1.out, HX3.out, hsg]; rfl)
        have hc2 : ¬ (8388608 ≤ X3) := by omega
        have ew4 : IntKind.i32.wrap X3 = X3 := i32_small (by omega)
        clear hsg
        go_wp2_with fail
        have J0 : Hid (RpE w (wr.alloc (.cells #[.int .u32 0, .int .u8 0, .int .i32 0, .int .u32 0, .int .u32 0, .int .u32 0, .int .u32 0] 143)) R B5 wr.heap.size (.slice ob B.length cb) B (.cells #[.int .u8 k, .int .u8 201, .slice ob B.length cb] 35) (.cells #[.bool false, .int .u32 0, .int .u32 0, .int .u32 0, .int .u32 0, .int .u32 0, .int .u32 0, .slice none 0 0] 41) [.bool false, .int .u32 A1, .int .u32 0, .int .u32 0, .int .u32 0, .int .u32 0, .int .u32 0] [.int .u32 0, .int .u8 0, .int .i32 0, .int .u32 0, .int .u32 0, .int .u32 0, .int .u32 0] v bl s) := Lib.hid (RpE.new HJ.out _ _ rfl)
        generalize wr.alloc (.cells #[.int .u32 0, .int .u8 0, .int .i32 0, .int .u32 0, .int .u32 0, .int .u32 0, .int .u32 0] 143) = x0 at *
        generalize wr.heap.size = B7 at *
        (with_reducible refine (num08_any J0.out.d.rd).mono ?_)
        rintro e y0 ⟨rfl, r0, a0⟩
        have K0 := Lib.hid (J0.out.read r0 a0)
        have q0 := blk_cell K0.out.b7 0 (v := .int .u32 0) rfl
        have z0 := blk_free K0.out.b7 0
        clear J0 r0 a0
        go_wp2_with fail
        have J1 : Hid (RpE w (y0.setCell ⟨B7, 0, none⟩ (.int .u32 (rdNum s))) R B5 B7 (.slice ob B.length cb) B (.cells #[.int .u8 k, .int .u8 201, .slice ob B.length cb] 35) (.cells #[.bool false, .int .u32 0, .int .u32 0, .int .u32 0, .int .u32 0, .int .u32 0, .int .u32 0, .slice none 0 0] 41) [.bool false, .int .u32 A1, .int .u32 0, .int .u32 0, .int .u32 0, .int .u32 0, .int .u32 0] [.int .u32 (rdNum s), .int .u8 0, .int .i32 0, .int .u32 0, .int .u32 0, .int .u32 0, .int .u32 0] v bl (tkS s 4)) := Lib.hid (K0.out.set 0 _)
        clear K0 q0 z0
        generalize y0.setCell ⟨B7, 0, none⟩ (.int .u32 (rdNum s)) = x1 at *
        (with_reducible refine (RNum_any J1.out.d.rd 1 (by decide)).mono ?_)
        rintro e y1 ⟨rfl, r1, a1⟩
        rw [HX1.out]
        have K1 := Lib.hid (J1.out.read r1 a1)
        have q1 := blk_cell K1.out.b7 1 (v := .int .u8 0) rfl
        have z1 := blk_free K1.out.b7 1
        clear J1 r1 a1
        go_wp2_with fail
        have J2 : Hid (RpE w (y1.setCell ⟨B7, 1, none⟩ (.int .u8 X1)) R B5 B7 (.slice ob B.length cb) B (.cells #[.int .u8 k, .int .u8 201, .slice ob B.length cb] 35) (.cells #[.bool false, .int .u32 0, .int .u32 0, .int .u32 0, .int .u32 0, .int .u32 0, .int .u32 0, .slice none 0 0] 41) [.bool false, .int .u32 A1, .int .u32 0, .int .u32 0, .int .u32 0, .int .u32 0, .int .u32 0] [.int .u32 (rdNum s), .int .u8 X1, .int .i32 0, .int .u32 0, .int .u32 0, .int .u32 0, .int .u32 0] v bl (tkS (tkS s 4) 1)) := Lib.hid (K1.out.set 1 _)
        clear K1 q1 z1
        generalize y1.setCell ⟨B7, 1, none⟩ (.int .u8 X1) = x2 at *
        (with_reducible refine (RNum_any J2.out.d.rd 3 (by decide)).mono ?_)
        rintro e y2 ⟨rfl, r2, a2⟩
        rw [HX3.out]
        have K2 := Lib.hid (J2.out.read r2 a2)
        have q2 := blk_cell K2.out.b7 2 (v := .int .i32 0) rfl
        have z2 := blk_free K2.out.b7 2
        clear J2 r2 a2
        go_wp2_with fail
        have J3 : Hid (RpE w (y2.setCell ⟨B7, 2, none⟩ (.int .i32 X3)) R B5 B7 (.slice ob B.length cb) B (.cells #[.int .u8 k, .int .u8 201, .slice ob B.length cb] 35) (.cells #[.bool false, .int .u32 0, .int .u32 0, .int .u32 0, .int .u32 0, .int .u32 0, .int .u32 0, .slice none 0 0] 41) [.bool false, .int .u32 A1, .int .u32 0, .int .u32 0, .int .u32 0, .int .u32 0, .int .u32 0] [.int .u32 (rdNum s), .int .u8 X1, .int .i32 X3, .int .u32 0, .int .u32 0, .int .u32 0, .int .u32 0] v bl (tkS (tkS (tkS s 4) 1) 3)) := Lib.hid (K2.out.set 2 _)
        clear K2 q2 z2
        generalize y2.setCell ⟨B7, 2, none⟩ (.int .i32 X3) = x3 at *
        (with_reducible refine (num08_any J3.out.d.rd).mono ?_)
        rintro e y3 ⟨rfl, r3, a3⟩
        have K3 := Lib.hid (J3.out.read r3 a3)
        have q3 := blk_cell K3.out.b7 3 (v := .int .u32 0) rfl
        have z3 := blk_free K3.out.b7 3
        clear J3 r3 a3
        go_wp2_with fail
        have J4 : Hid (RpE w (y3.setCell ⟨B7, 3, none⟩ (.int .u32 (rdNum (tkS (tkS (tkS s 4) 1) 3)))) R B5 B7 (.slice ob B.length cb) B (.cells #[.int .u8 k, .int .u8 201, .slice ob B.length cb] 35) (.cells #[.bool false, .int .u32 0, .int .u32 0, .int .u32 0, .int .u32 0, .int .u32 0, .int .u32 0, .slice none 0 0] 41) [.bool false, .int .u32 A1, .int .u32 0, .int .u32 0, .int .u32 0, .int .u32 0, .int .u32 0] [.int .u32 (rdNum s), .int .u8 X1, .int .i32 X3, .int .u32 (rdNum (tkS (tkS (tkS s 4) 1) 3)), .int .u32 0, .int .u32 0, .int .u32 0] v bl (tkS (tkS (tkS (tkS s 4) 1) 3) 4)) := Lib.hid (K3.out.set 3 _)
        clear K3 q3 z3
        generalize y3.setCell ⟨B7, 3, none⟩ (.int .u32 (rdNum (tkS (tkS (tkS s 4) 1) 3))) = x4 at *
        (with_reducible refine (num08_any J4.out.d.rd).mono ?_)
        rintro e y4 ⟨rfl, r4, a4⟩
        have K4 := Lib.hid (J4.out.read r4 a4)
        have q4 := blk_cell K4.out.b7 4 (v := .int .u32 0) rfl
        have z4 := blk_free K4.out.b7 4
        clear J4 r4 a4
        go_wp2_with fail
        have J5 : Hid (RpE w (y4.setCell ⟨B7, 4, none⟩ (.int .u32 (rdNum (tkS (tkS (tkS (tkS s 4) 1) 3) 4)))) R B5 B7 (.slice ob B.length cb) B (.cells #[.int .u8 k, .int .u8 201, .slice ob B.length cb] 35) (.cells #[.bool false, .int .u32 0, .int .u32 0, .int .u32 0, .int .u32 0, .int .u32 0, .int .u32 0, .slice none 0 0] 41) [.bool false, .int .u32 A1, .int .u32 0, .int .u32 0, .int .u32 0, .int .u32 0, .int .u32 0] [.int .u32 (rdNum s), .int .u8 X1, .int .i32 X3, .int .u32 (rdNum (tkS (tkS (tkS s 4) 1) 3)), .int .u32 (rdNum (tkS (tkS (tkS (tkS s 4) 1) 3) 4)), .int .u32 0, .int .u32 0] v bl (tkS (tkS (tkS (tkS (tkS s 4) 1) 3) 4) 4)) := Lib.hid (K4.out.set 4 _)
        clear K4 q4 z4
        generalize y4.setCell ⟨B7, 4, none⟩ (.int .u32 (rdNum (tkS (tkS (tkS (tkS s 4) 1) 3) 4))) = x5 at *
        (with_reducible refine (num08_any J5.out.d.rd).mono ?_)
        rintro e y5 ⟨rfl, r5, a5⟩
        have K5 := Lib.hid (J5.out.read r5 a5)
        have q5 := blk_cell K5.out.b7 5 (v := .int .u32 0) rfl
        have z5 := blk_free K5.out.b7 5
        clear J5 r5 a5
        go_wp2_with fail
        have J6 : Hid (RpE w (y5.setCell ⟨B7, 5, none⟩ (.int .u32 (rdNum (tkS (tkS (tkS (tkS (tkS s 4) 1) 3) 4) 4)))) R B5 B7 (.slice ob B.length cb) B (.cells #[.int .u8 k, .int .u8 201, .slice ob B.length cb] 35) (.cells #[.bool false, .int .u32 0, .int .u32 0, .int .u32 0, .int .u32 0, .int .u32 0, .int .u32 0, .slice none 0 0] 41) [.bool false, .int .u32 A1, .int .u32 0, .int .u32 0, .int .u32 0, .int .u32 0, .int .u32 0] [.int .u32 (rdNum s), .int .u8 X1, .int .i32 X3, .int .u32 (rdNum (tkS (tkS (tkS s 4) 1) 3)), .int .u32 (rdNum (tkS (tkS (tkS (tkS s 4) 1) 3) 4)), .int .u32 (rdNum (tkS (tkS (tkS (tkS (tkS s 4) 1) 3) 4) 4)), .int .u32 0] v bl (tkS (tkS (tkS (tkS (tkS (tkS s 4) 1) 3) 4) 4) 4)) := Lib.hid (K5.out.set 5 _)
        clear K5 q5 z5
        generalize y5.setCell ⟨B7, 5, none⟩ (.int .u32 (rdNum (tkS (tkS (tkS (tkS (tkS s 4) 1) 3) 4) 4))) = x6 at *
        (with_reducible refine (num08_any J6.out.d.rd).mono ?_)
        rintro e y6 ⟨rfl, r6, a6⟩
        have K6 := Lib.hid (J6.out.read r6 a6)
        have q6 := blk_cell K6.out.b7 6 (v := .int .u32 0) rfl
        have z6 := blk_free K6.out.b7 6
        clear J6 r6 a6
        have J7 : Hid (RpE w (y6.setCell ⟨B7, 6, none⟩ (.int .u32 (rdNum (tkS (tkS (tkS (tkS (tkS (tkS s 4) 1) 3) 4) 4) 4)))) R B5 B7 (.slice ob B.length cb) B (.cells #[.int .u8 k, .int .u8 201, .slice ob B.length cb] 35) (.cells #[.bool false, .int .u32 0, .int .u32 0, .int .u32 0, .int .u32 0, .int .u32 0, .int .u32 0, .slice none 0 0] 41) [.bool false, .int .u32 A1, .int .u32 0, .int .u32 0, .int .u32 0, .int .u32 0, .int .u32 0] [.int .u32 (rdNum s), .int .u8 X1, .int .i32 X3, .int .u32 (rdNum (tkS (tkS (tkS s 4) 1) 3)), .int .u32 (rdNum (tkS (tkS (tkS (tkS s 4) 1) 3) 4)), .int .u32 (rdNum (tkS (tkS (tkS (tkS (tkS s 4) 1) 3) 4) 4)), .int .u32 (rdNum (tkS (tkS (tkS (tkS (tkS (tkS s 4) 1) 3) 4) 4) 4))] v bl (tkS (tkS (tkS (tkS (tkS (tkS (tkS s 4) 1) 3) 4) 4) 4) 4)) := Lib.hid (K6.out.set 6 _)
        have c57 := blk_cell J7.out.d.b5 7 (v := v) rfl
        obtain ⟨k0, k1, k2, k3, k4, k5, k6⟩ := cells7 J7.out.b7
        have J8 := Lib.hid (J7.out.d.on (More.alloc (y6.setCell ⟨B7, 6, none⟩ (.int .u32 (rdNum (tkS (tkS (tkS (tkS (tkS (tkS s 4) 1) 3) 4) 4) 4)))) (.cells #[.int .u32 (rdNum s), .int .u8 X1, .int .i32 X3, .int .u32 (rdNum (tkS (tkS (tkS s 4) 1) 3)), .int .u32 (rdNum (tkS (tkS (tkS (tkS s 4) 1) 3) 4)), .int .u32 (rdNum (tkS (tkS (tkS (tkS (tkS s 4) 1) 3) 4) 4)), .int .u32 (rdNum (tkS (tkS (tkS (tkS (tkS (tkS s 4) 1) 3) 4) 4) 4))] 143)))
        go_wp2_with (at_builtin; refine wpList_append_row _ rfl (.tmp 93) (.tmp 95) 39 rfl (B5 + 1) 143 j0 (.agg #[.int .u32 0, .int .u8 0, .int .i32 0, .int .u32 0, .int .u32 0, .int .u32 0, .int .u32 0]) 7 28 Try.underlying39 hi hz0 hz1 hz2 rfl (by decide) v bl rfl J8.out.row y6.heap.size [.int .u32 (rdNum s), .int .u8 X1, .int .i32 X3, .int .u32 (rdNum (tkS (tkS (tkS s 4) 1) 3)), .int .u32 (rdNum (tkS (tkS (tkS (tkS s 4) 1) 3) 4)), .int .u32 (rdNum (tkS (tkS (tkS (tkS (tkS s 4) 1) 3) 4) 4)), .int .u32 (rdNum (tkS (tkS (tkS (tkS (tkS (tkS s 4) 1) 3) 4) 4) 4))] (readBlk s).1 rfl rfl (new_cells (by simp)) (by simp [Value.oneCell']) (fun _ _ => ⟨HCE.out.symm, OKB.out⟩) (fun b hb => hb.elim) (by decide) (by have := HL.out; omega) (by have := blk_lt J8.out.b5; omega) ?_; intro v10 w10 ho10 hg10 hb10; have J10 := Lib.hid (J8.out.put rfl ho10 hg10); have q7 : w10.cell? ⟨B5, 7, none⟩ = some v := blk_cell ((hg10.block B5 (blk_lt J8.out.b5) (fun e => by have := J8.out.row.ge e.symm; omega)).trans J8.out.b5) 7 rfl; have z7 : w10.frozen? ⟨B5, 7, none⟩ = false := blk_free ((hg10.block B5 (blk_lt J8.out.b5) (fun e => by have := J8.out.row.ge e.symm; omega)).trans J8.out.b5) 7; obtain ⟨o10, n10, c10, rfl, hz8, hz9⟩ := ho10.shape; clear hz8 hz9 ho10 hg10 hb10 c57 k0 k1 k2 k3 k4 k5 k6 q6 z6)
        go_roundw
        case rel => exact ⟨j + 1, by omega, by go_num, ⟨_, _, _, J10.out, by (have := HL.out; simp; omega), H1.out, H2.out⟩⟩
        case measure => simp [intOf]; omega
      · rw [if_neg hc] at hsg
        have HCE : Hid ((readBlk s).1.cells = [.int .u32 (rdNum s), .int .u8 X1, .int .i32 (X3 - 16777216), .int .u32 (rdNum (tkS (tkS (tkS s 4) 1) 3)), .int .u32 (rdNum (tkS (tkS (tkS (tkS s 4) 1) 3) 4)), .int .u32 (rdNum (tkS (tkS (tkS (tkS (tkS s 4) 1) 3) 4) 4)), .int .u32 (rdNum (tkS (tkS (tkS (tkS (tkS (tkS s 4) 1) 3) 4) 4) 4))]) := Lib.hid (by show ([_, Value.int .u8 (num (tkB (tkS s 4).1 1)), Value.int .i32 (sgd (num (tkB (tkS (tkS s 4) 1).1 3)) 24), _, _, _, _] : List Value) = _; rw [HX1.out, HX3.out, hsg]; rfl)
        have hc2 : 8388608 ≤ X3 := by omega
        have ew4 : IntKind.i32.wrap (X3 - 16777216) = X3 - 16777216 := i32_small (by omega)
        have ew5 : IntKind.i64.wrap (X3 - 16777216) = X3 - 16777216 := IntWalk.i64_in _ (by omega)
        clear hsg
        go_wp2_with fail
        have J0 : Hid (RpE w (wr.alloc (.cells #[.int .u32 0, .int .u8 0, .int .i32 0, .int .u32 0, .int .u32 0, .int .u32 0, .int .u32 0] 143)) R B5 wr.heap.size (.slice ob B.length cb) B (.cells #[.int .u8 k, .int .u8 201, .slice ob B.length cb] 35) (.cells #[.bool false, .int .u32 0, .int .u32 0, .int .u32 0, .int .u32 0, .int .u32 0, .int .u32 0, .slice none 0 0] 41) [.bool false, .int .u32 A1, .int .u32 0, .int .u32 0, .int .u32 0, .int .u32 0, .int .u32 0] [.int .u32 0, .int .u8 0, .int .i32 0, .int .u32 0, .int .u32 0, .int .u32 0, .int .u32 0] v bl s) := Lib.hid (RpE.new HJ.out _ _ rfl)
        generalize wr.alloc (.cells #[.int .u32 0, .int .u8 0, .int .i32 0, .int .u32 0, .int .u32 0, .int .u32 0, .int .u32 0] 143) = x0 at *
        generalize wr.heap.size = B7 at *
        (with_reducible refine (num08_any J0.out.d.rd).mono ?_)
        rintro e y0 ⟨rfl, r0, a0⟩
        have K0 := Lib.hid (J0.out.read r0 a0)
        have q0 := blk_cell K0.out.b7 0 (v := .int .u32 0) rfl
        have z0 := blk_free K0.out.b7 0
        clear J0 r0 a0
        go_wp2_with fail
        have J1 : Hid (RpE w (y0.setCell ⟨B7, 0, none⟩ (.int .u32 (rdNum s))) R B5 B7 (.slice ob B.length cb) B (.cells #[.int .u8 k, .int .u8 201, .slice ob B.length cb] 35) (.cells #[.bool false, .int .u32 0, .int .u32 0, .int .u32 0, .int .u32 0, .int .u32 0, .int .u32 0, .slice none 0 0] 41) [.bool false, .int .u32 A1, .int .u32 0, .int .u32 0, .int .u32 0, .int .u32 0, .int .u32 0] [.int .u32 (rdNum s), .int .u8 0, .int .i32 0, .int .u32 0, .int .u32 0, .int .u32 0, .int .u32 0] v bl (tkS s 4)) := Lib.hid (K0.out.set 0 _)
        clear K0 q0 z0
        generalize y0.setCell ⟨B7, 0, none⟩ (.int .u32 (rdNum s)) = x1 at *
        (with_reducible refine (RNum_any J1.out.d.rd 1 (by decide)).mono ?_)
        rintro e y1 ⟨rfl, r1, a1⟩
        rw [HX1.out]
        have K1 := Lib.hid (J1.out.read r1 a1)
        have q1 := blk_cell K1.out.b7 1 (v := .int .u8 0) rfl
        have z1 := blk_free K1.out.b7 1
        clear J1 r1 a1
        go_wp2_with fail
        have J2 : Hid (RpE w (y1.setCell ⟨B7, 1, none⟩ (.int .u8 X1)) R B5 B7 (.slice ob B.length cb) B (.cells #[.int .u8 k, .int .u8 201, .slice ob B.length cb] 35) (.cells #[.bool false, .int .u32 0, .int .u32 0, .int .u32 0, .int .u32 0, .int .u32 0, .int .u32 0, .slice none 0 0] 41) [.bool false, .int .u32 A1, .int .u32 0, .int .u32 0, .int .u32 0, .int .u32 0, .int .u32 0] [.int .u32 (rdNum s), .int .u8 X1, .int .i32 0, .int .u32 0, .int .u32 0, .int .u32 0, .int .u32 0] v bl (tkS (tkS s 4) 1)) := Lib.hid (K1.out.set 1 _)
        clear K1 q1 z1
        generalize y1.setCell ⟨B7, 1, none⟩ (.int .u8 X1) = x2 at *
        (with_reducible refine (RNum_any J2.out.d.rd 3 (by decide)).mono ?_)
        rintro e y2 ⟨rfl, r2, a2⟩
        rw [HX3.out]
        have K2 := Lib.hid (J2.out.read r2 a2)
        have q2 := blk_cell K2.out.b7 2 (v := .int .i32 0) rfl
        have z2 := blk_free K2.out.b7 2
        clear J2 r2 a2
        go_wp2_with fail
        have J3 : Hid (RpE w (y2.setCell ⟨B7, 2, none⟩ (.int .i32 (X3 - 16777216))) R B5 B7 (.slice ob B.length cb) B (.cells #[.int .u8 k, .int .u8 201, .slice ob B.length cb] 35) (.cells #[.bool false, .int .u32 0, .int .u32 0, .int .u32 0, .int .u32 0, .int .u32 0, .int .u32 0, .slice none 0 0] 41) [.bool false, .int .u32 A1, .int .u32 0, .int .u32 0, .int .u32 0, .int .u32 0, .int .u32 0] [.int .u32 (rdNum s), .int .u8 X1, .int .i32 (X3 - 16777216), .int .u32 0, .int .u32 0, .int .u32 0, .int .u32 0] v bl (tkS (tkS (tkS s 4) 1) 3)) := Lib.hid (K2.out.set 2 _)
        clear K2 q2 z2
        generalize y2.setCell ⟨B7, 2, none⟩ (.int .i32 (X3 - 16777216)) = x3 at *
        (with_reducible refine (num08_any J3.out.d.rd).mono ?_)
        rintro e y3 ⟨rfl, r3, a3⟩
        have K3 := Lib.hid (J3.out.read r3 a3)
        have q3 := blk_cell K3.out.b7 3 (v := .int .u32 0) rfl
        have z3 := blk_free K3.out.b7 3
        clear J3 r3 a3
        go_wp2_with fail
        have J4 : Hid (RpE w (y3.setCell ⟨B7, 3, none⟩ (.int .u32 (rdNum (tkS (tkS (tkS s 4) 1) 3)))) R B5 B7 (.slice ob B.length cb) B (.cells #[.int .u8 k, .int .u8 201, .slice ob B.length cb] 35) (.cells #[.bool false, .int .u32 0, .int .u32 0, .int .u32 0, .int .u32 0, .int .u32 0, .int .u32 0, .slice none 0 0] 41) [.bool false, .int .u32 A1, .int .u32 0, .int .u32 0, .int .u32 0, .int .u32 0, .int .u32 0] [.int .u32 (rdNum s), .int .u8 X1, .int .i32 (X3 - 16777216), .int .u32 (rdNum (tkS (tkS (tkS s 4) 1) 3)), .int .u32 0, .int .u32 0, .int .u32 0] v bl (tkS (tkS (tkS (tkS s 4) 1) 3) 4)) := Lib.hid (K3.out.set 3 _)
        clear K3 q3 z3
        generalize y3.setCell ⟨B7, 3, none⟩ (.int .u32 (rdNum (tkS (tkS (tkS s 4) 1) 3))) = x4 at *
        (with_reducible refine (num08_any J4.out.d.rd).mono ?_)
        rintro e y4 ⟨rfl, r4, a4⟩
        have K4 := Lib.hid (J4.out.read r4 a4)
        have q4 := blk_cell K4.out.b7 4 (v := .int .u32 0) rfl
        have z4 := blk_free K4.out.b7 4
        clear J4 r4 a4
        go_wp2_with fail
        have J5 : Hid (RpE w (y4.setCell ⟨B7, 4, none⟩ (.int .u32 (rdNum (tkS (tkS (tkS (tkS s 4) 1) 3) 4)))) R B5 B7 (.slice ob B.length cb) B (.cells #[.int .u8 k, .int .u8 201, .slice ob B.length cb] 35) (.cells #[.bool false, .int .u32 0, .int .u32 0, .int .u32 0, .int .u32 0, .int .u32 0, .int .u32 0, .slice none 0 0] 41) [.bool false, .int .u32 A1, .int .u32 0, .int .u32 0, .int .u32 0, .int .u32 0, .int .u32 0] [.int .u32 (rdNum s), .int .u8 X1, .int .i32 (X3 - 16777216), .int .u32 (rdNum (tkS (tkS (tkS s 4) 1) 3)), .int .u32 (rdNum (tkS (tkS (tkS (tkS s 4) 1) 3) 4)), .int .u32 0, .int .u32 0] v bl (tkS (tkS (tkS (tkS (tkS s 4) 1) 3) 4) 4)) := Lib.hid (K4.out.set 4 _)
        clear K4 q4 z4
        generalize y4.setCell ⟨B7, 4, none⟩ (.int .u32 (rdNum (tkS (tkS (tkS (tkS s 4) 1) 3) 4))) = x5 at *
        (with_reducible refine (num08_any J5.out.d.rd).mono ?_)
        rintro e y5 ⟨rfl, r5, a5⟩
        have K5 := Lib.hid (J5.out.read r5 a5)
        have q5 := blk_cell K5.out.b7 5 (v := .int .u32 0) rfl
        have z5 := blk_free K5.out.b7 5
        clear J5 r5 a5
        go_wp2_with fail
        have J6 : Hid (RpE w (y5.setCell ⟨B7, 5, none⟩ (.int .u32 (rdNum (tkS (tkS (tkS (tkS (tkS s 4) 1) 3) 4) 4)))) R B5 B7 (.slice ob B.length cb) B (.cells #[.int .u8 k, .int .u8 201, .slice ob B.length cb] 35) (.cells #[.bool false, .int .u32 0, .int .u32 0, .int .u32 0, .int .u32 0, .int .u32 0, .int .u32 0, .slice none 0 0] 41) [.bool false, .int .u32 A1, .int .u32 0, .int .u32 0, .int .u32 0, .int .u32 0, .int .u32 0] [.int .u32 (rdNum s), .int .u8 X1, .int .i32 (X3 - 16777216), .int .u32 (rdNum (tkS (tkS (tkS s 4) 1) 3)), .int .u32 (rdNum (tkS (tkS (tkS (tkS s 4) 1) 3) 4)), .int .u32 (rdNum (tkS (tkS (tkS (tkS (tkS s 4) 1) 3) 4) 4)), .int .u32 0] v bl (tkS (tkS (tkS (tkS (tkS (tkS s 4) 1) 3) 4) 4) 4)) := Lib.hid (K5.out.set 5 _)
        clear K5 q5 z5
        generalize y5.setCell ⟨B7, 5, none⟩ (.int .u32 (rdNum (tkS (tkS (tkS (tkS (tkS s 4) 1) 3) 4) 4))) = x6 at *
        (with_reducible refine (num08_any J6.out.d.rd).mono ?_)
        rintro e y6 ⟨rfl, r6, a6⟩
        have K6 := Lib.hid (J6.out.read r6 a6)
        have q6 := blk_cell K6.out.b7 6 (v := .int .u32 0) rfl
        have z6 := blk_free K6.out.b7 6
        clear J6 r6 a6
        have J7 : Hid (RpE w (y6.setCell ⟨B7, 6, none⟩ (.int .u32 (rdNum (tkS (tkS (tkS (tkS (tkS (tkS s 4) 1) 3) 4) 4) 4)))) R B5 B7 (.slice ob B.length cb) B (.cells #[.int .u8 k, .int .u8 201, .slice ob B.length cb] 35) (.cells #[.bool false, .int .u32 0, .int .u32 0, .int .u32 0, .int .u32 0, .int .u32 0, .int .u32 0, .slice none 0 0] 41) [.bool false, .int .u32 A1, .int .u32 0, .int .u32 0, .int .u32 0, .int .u32 0, .int .u32 0] [.int .u32 (rdNum s), .int .u8 X1, .int .i32 (X3 - 16777216), .int .u32 (rdNum (tkS (tkS (tkS s 4) 1) 3)), .int .u32 (rdNum (tkS (tkS (tkS (tkS s 4) 1) 3) 4)), .int .u32 (rdNum (tkS (tkS (tkS (tkS (tkS s 4) 1) 3) 4) 4)), .int .u32 (rdNum (tkS (tkS (tkS (tkS (tkS (tkS s 4) 1) 3) 4) 4) 4))] v bl (tkS (tkS (tkS (tkS (tkS (tkS (tkS s 4) 1) 3) 4) 4) 4) 4)) := Lib.hid (K6.out.set 6 _)
        have c57 := blk_cell J7.out.d.b5 7 (v := v) rfl
        obtain ⟨k0, k1, k2, k3, k4, k5, k6⟩ := cells7 J7.out.b7
        have J8 := Lib.hid (J7.out.d.on (More.alloc (y6.setCell ⟨B7, 6, none⟩ (.int .u32 (rdNum (tkS (tkS (tkS (tkS (tkS (tkS s 4) 1) 3) 4) 4) 4)))) (.cells #[.int .u32 (rdNum s), .int .u8 X1, .int .i32 (X3 - 16777216), .int .u32 (rdNum (tkS (tkS (tkS s 4) 1) 3)), .int .u32 (rdNum (tkS (tkS (tkS (tkS s 4) 1) 3) 4)), .int .u32 (rdNum (tkS (tkS (tkS (tkS (tkS s 4) 1) 3) 4) 4)), .int .u32 (rdNum (tkS (tkS (tkS (tkS (tkS (tkS s 4) 1) 3) 4) 4) 4))] 143)))
        go_wp2_with (at_builtin; refine wpList_append_row _ rfl (.tmp 93) (.tmp 95) 39 rfl (B5 + 1) 143 j0 (.agg #[.int .u32 0, .int .u8 0, .int .i32 0, .int .u32 0, .int .u32 0, .int .u32 0, .int .u32 0]) 7 28 Try.underlying39 hi hz0 hz1 hz2 rfl (by decide) v bl rfl J8.out.row y6.heap.size [.int .u32 (rdNum s), .int .u8 X1, .int .i32 (X3 - 16777216), .int .u32 (rdNum (tkS (tkS (tkS s 4) 1) 3)), .int .u32 (rdNum (tkS (tkS (tkS (tkS s 4) 1) 3) 4)), .int .u32 (rdNum (tkS (tkS (tkS (tkS (tkS s 4) 1) 3) 4) 4)), .int .u32 (rdNum (tkS (tkS (tkS (tkS (tkS (tkS s 4) 1) 3) 4) 4) 4))] (readBlk s).1 rfl rfl (new_cells (by simp)) (by simp [Value.oneCell']) (fun _ _ => ⟨HCE.out.symm, OKB.out⟩) (fun b hb => hb.elim) (by decide) (by have := HL.out; omega) (by have := blk_lt J8.out.b5; omega) ?_; intro v10 w10 ho10 hg10 hb10; have J10 := Lib.hid (J8.out.put rfl ho10 hg10); have q7 : w10.cell? ⟨B5, 7, none⟩ = some v := blk_cell ((hg10.block B5 (blk_lt J8.out.b5) (fun e => by have := J8.out.row.ge e.symm; omega)).trans J8.out.b5) 7 rfl; have z7 : w10.frozen? ⟨B5, 7, none⟩ = false := blk_free ((hg10.block B5 (blk_lt J8.out.b5) (fun e => by have := J8.out.row.ge e.symm; omega)).trans J8.out.b5) 7; obtain ⟨o10, n10, c10, rfl, hz8, hz9⟩ := ho10.shape; clear hz8 hz9 ho10 hg10 hb10 c57 k0 k1 k2 k3 k4 k5 k6 q6 z6)
        go_roundw
        case rel => exact ⟨j + 1, by omega, by go_num, ⟨_, _, _, J10.out, by (have := HL.out; simp; omega), H1.out, H2.out⟩⟩
        case measure => simp [intOf]; omega
    · obtain rfl : j = kn := by omega
      rw [Nat.sub_self] at hr1 hr2
      have hr1 : (readBls j s0).1 = bl := by rw [hr1]; exact List.append_nil _
      have hr2 : (readBls j s0).2 = s := hr2
      have hDD := HD.out
      rw [hr1, hr2] at hDD
      unfold doneR at hDD
      have hjk : ¬ (j : Int) < k := by rw [HKK.out]; omega
      clear hr1 hr2
      go_wp2_with fail
      (with_reducible refine (REnd_any HJ.out.rd).mono ?_)
      rintro e x1 ⟨rfl, m1⟩
      have HJ1 := Lib.hid (HJ.out.on m1)
      clear m1 pk HJ
      by_cases he : endS s = 0
      · rw [if_pos he] at hDD
        have HDD := Lib.hid hDD
        rw [he]
        obtain ⟨g0, g1, g2, g3, g4, g5, g6, g7⟩ := cells8 HJ1.out.b1
        obtain ⟨f0, f1, f2, f3, f4, f5, f6, f7⟩ := free8 HJ1.out.b1
        obtain ⟨ov, nv, cv, rfl, hz8, hz9⟩ := HJ1.out.row.shape
        obtain ⟨p0, p1, p2, p3, p4, p5, p6, p7⟩ := cells8 HJ1.out.b5
        clear hDD hz8 hz9 he
        go_wp2
        have fin := st8_blk HJ1.out.b1 (.bool false) (.int .u32 A1) (.int .u32 0) (.int .u32 0) (.int .u32 0) (.int .u32 0) (.int .u32 0) (.slice ov nv cv)
        have a8 := Away.st8 x1 (w.heap.size + 1) (.bool false) (.int .u32 A1) (.int .u32 0) (.int .u32 0) (.int .u32 0) (.int .u32 0) (.int .u32 0) (.slice ov nv cv)
        have sf := slP_off (HJ1.out.row.sl (by decide)) (fun b hb e => by have := HJ1.out.row.ge hb; have := HJ1.out.h1; have := HJ1.out.h2; omega) a8
        have mf := Away.to_more HJ1.out.more a8 (fun b e => by omega)
        obtain ⟨WF, hWF⟩ : ∃ WF, ((((((((x1.setCell ⟨w.heap.size + 1, 0, none⟩ (.bool false)).setCell ⟨w.heap.size + 1, 1, none⟩ (.int .u32 A1)).setCell ⟨w.heap.size + 1, 2, none⟩ (.int .u32 0)).setCell ⟨w.heap.size + 1, 3, none⟩ (.int .u32 0)).setCell ⟨w.heap.size + 1, 4, none⟩ (.int .u32 0)).setCell ⟨w.heap.size + 1, 5, none⟩ (.int .u32 0)).setCell ⟨w.heap.size + 1, 6, none⟩ (.int .u32 0)).setCell ⟨w.heap.size + 1, 7, none⟩ (.slice ov nv cv)) = WF := ⟨_, rfl⟩
        rw [hWF] at fin sf mf ⊢
        clear hWF a8
        obtain ⟨r0, r1, r2, r3, r4, r5, r6, r7⟩ := cells8 fin
        (refine bodyPost_ret (v := .tuple #[.agg #[.bool false, .int .u32 A1, .int .u32 0, .int .u32 0, .int .u32 0, .int .u32 0, .int .u32 0, .slice ov nv cv], .int .i64 0]) ?rr3 rfl ?_; (case rr3 => (simp [results, Try.results20, go_sem, r0, r1, r2, r3, r4, r5, r6, r7])))
        refine ⟨⟨.slice ov nv cv, by first | (rw [← HDD.out]; done) | (rw [← HDD.out]; rfl), ?_⟩, mf⟩
        rw [← HDD.out]
        exact sf
      · rw [if_neg he] at hDD
        have HDD := Lib.hid hDD
        have heb : (endS s != 0) = true := by simpa using he
        clear hDD he
        go_wp2_with fail
        (with_reducible refine (REnd_any HJ1.out.rd).mono ?_)
        rintro e x2 ⟨rfl, m2⟩
        have HJ2 := Lib.hid (HJ1.out.on m2)
        clear m2 HJ1
        obtain ⟨g0, g1, g2, g3, g4, g5, g6, g7⟩ := cells8 HJ2.out.b1
        obtain ⟨f0, f1, f2, f3, f4, f5, f6, f7⟩ := free8 HJ2.out.b1
        go_wp2
        have fin := st8_blk HJ2.out.b1 (.bool false) (.int .u32 0) (.int .u32 0) (.int .u32 0) (.int .u32 0) (.int .u32 0) (.int .u32 0) (.slice none 0 0)
        have a8 := Away.st8 x2 (w.heap.size + 1) (.bool false) (.int .u32 0) (.int .u32 0) (.int .u32 0) (.int .u32 0) (.int .u32 0) (.int .u32 0) (.slice none 0 0)
        have mf := Away.to_more HJ2.out.more a8 (fun b e => by omega)
        obtain ⟨WF, hWF⟩ : ∃ WF, ((((((((x2.setCell ⟨w.heap.size + 1, 0, none⟩ (.bool false)).setCell ⟨w.heap.size + 1, 1, none⟩ (.int .u32 0)).setCell ⟨w.heap.size + 1, 2, none⟩ (.int .u32 0)).setCell ⟨w.heap.size + 1, 3, none⟩ (.int .u32 0)).setCell ⟨w.heap.size + 1, 4, none⟩ (.int .u32 0)).setCell ⟨w.heap.size + 1, 5, none⟩ (.int .u32 0)).setCell ⟨w.heap.size + 1, 6, none⟩ (.int .u32 0)).setCell ⟨w.heap.size + 1, 7, none⟩ (.slice none 0 0)) = WF := ⟨_, rfl⟩
        rw [hWF] at fin mf ⊢
        clear hWF a8
        obtain ⟨r0, r1, r2, r3, r4, r5, r6, r7⟩ := cells8 fin
        (refine bodyPost_ret (v := .tuple #[.agg #[.bool false, .int .u32 0, .int .u32 0, .int .u32 0, .int .u32 0, .int .u32 0, .int .u32 0, .slice none 0 0], .int .i64 (endS s)]) ?rr4 rfl ?_; (case rr4 => (simp [results, Try.results20, go_sem, r0, r1, r2, r3, r4, r5, r6, r7])))
        refine ⟨⟨.slice none 0 0, by first | (rw [← HDD.out]; done) | (rw [← HDD.out]; rfl), ?_⟩, mf⟩
        rw [← HDD.out]
        exact SlP.nil _ _ _
end Go.Proofs.Ytlnikmcimmnbmaa
