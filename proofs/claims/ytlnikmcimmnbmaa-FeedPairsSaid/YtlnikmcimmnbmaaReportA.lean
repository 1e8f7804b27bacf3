/- Reports: how they read; Right. -/
import Derived.Test.YtlnikmcimmnbmaaChunkG
namespace Go.Proofs.Ytlnikmcimmnbmaa
set_option linter.unusedSimpArgs false
set_option linter.unusedVariables false
open Go.RowKit Go.ChangeShapes
set_option maxRecDepth 100000

/-- What is told of a source. -/
structure Blk where
  src : Int
  part : Int
  miss : Int
  high : Int
  jit : Int
  last : Int
  dly : Int
def Blk.tup (b : Blk) : Int × Int × Int × Int × Int × Int × Int := (b.src, b.part, b.miss, b.high, b.jit, b.last, b.dly)
theorem Blk.tup_inj {a b : Blk} (h : a.tup = b.tup) : a = b := by
  obtain ⟨⟩ := a
  obtain ⟨⟩ := b
  simp only [Blk.tup, Prod.mk.injEq] at h
  simp [h]
instance : DecidableEq Blk := fun _ _ => decidable_of_iff _ ⟨Blk.tup_inj, fun h => by rw [h]⟩
/-- What a sender tells of itself. -/
structure Inf where
  sec : Int
  frac : Int
  stamp : Int
  pkts : Int
  octs : Int
def Inf.tup (b : Inf) : Int × Int × Int × Int × Int := (b.sec, b.frac, b.stamp, b.pkts, b.octs)
theorem Inf.tup_inj {a b : Inf} (h : a.tup = b.tup) : a = b := by
  obtain ⟨⟩ := a
  obtain ⟨⟩ := b
  simp only [Inf.tup, Prod.mk.injEq] at h
  simp [h]
instance : DecidableEq Inf := fun _ _ => decidable_of_iff _ ⟨Inf.tup_inj, fun h => by rw [h]⟩
/-- A report. -/
structure Rep where
  snd : Bool
  src : Int
  inf : Inf
  bl : List Blk
def Rep.tup (b : Rep) : Bool × Int × Inf × List Blk := (b.snd, b.src, b.inf, b.bl)
theorem Rep.tup_inj {a b : Rep} (h : a.tup = b.tup) : a = b := by
  obtain ⟨⟩ := a
  obtain ⟨⟩ := b
  simp only [Rep.tup, Prod.mk.injEq] at h
  simp [h]
instance : DecidableEq Rep := fun _ _ => decidable_of_iff _ ⟨Rep.tup_inj, fun h => by rw [h]⟩
structure BlkOK (b : Blk) : Prop where
  src : U32 b.src
  part : 0 ≤ b.part ∧ b.part ≤ 255
  miss : -2147483648 ≤ b.miss ∧ b.miss ≤ 2147483647
  high : U32 b.high
  jit : U32 b.jit
  last : U32 b.last
  dly : U32 b.dly
structure InfOK (b : Inf) : Prop where
  sec : U32 b.sec
  frac : U32 b.frac
  stamp : U32 b.stamp
  pkts : U32 b.pkts
  octs : U32 b.octs
structure RepOK (r : Rep) : Prop where
  src : U32 r.src
  inf : InfOK r.inf
  bl : ∀ b ∈ r.bl, BlkOK b
def Blk.cells (b : Blk) : List Value := [.int .u32 b.src, .int .u8 b.part, .int .i32 b.miss, .int .u32 b.high, .int .u32 b.jit, .int .u32 b.last, .int .u32 b.dly]
def Rep.cells (r : Rep) (vb : Value) : List Value := [.bool r.snd, .int .u32 r.src, .int .u32 r.inf.sec, .int .u32 r.inf.frac, .int .u32 r.inf.stamp, .int .u32 r.inf.pkts, .int .u32 r.inf.octs, vb]
def RBlk : Reader Blk := fun _ cs b => cs = b.cells ∧ BlkOK b
theorem keepsBlk : Keeps RBlk := fun _ _ _ _ _ h => h
def RRep : Reader Rep := fun w cs r => ∃ vb, cs = r.cells vb ∧ SlP 7 RBlk w vb r.bl ∧ RepOK r
theorem keepsRep : Keeps RRep := fun _ _ _ _ m ⟨vb, h1, h2, h3⟩ => ⟨vb, h1, h2.keep keepsBlk m, h3⟩
theorem Opens.map {P : Program} {t : TypeId} {α β : Type} {R : Reader α} {Q : Reader β} (h : Opens P t R) (n : Nat) (hn : ∀ (H : Type) (enc : TypeId × Value → H) (w : World) (base : Nat) (spare : Nat → Bool) (held : Bool) (fuel : Nat) (cs : List Value) (x : DataW H × List MemPlace), DataW.trod enc P w base spare held fuel t cs = some x → cs.length = n)
    (k : ∀ w cs y, cs.length = n → R w cs y → ∃ z, Q w cs z) : Opens P t Q := fun H enc w base spare held fuel cs x hx => by
  obtain ⟨y, hy⟩ := h H enc w base spare held fuel cs x hx
  exact k w cs y (hn H enc w base spare held fuel cs x hx) hy
theorem trod_len {P : Program} {t : TypeId} {fs : Array Field} {n : Nat} (ht : P.underlying t = some (.struct fs)) (hn : P.cellsOf t = n) (H : Type) (enc : TypeId × Value → H) (w : World) (base : Nat) (spare : Nat → Bool) (held : Bool) (fuel : Nat) (cs : List Value) (x : DataW H × List MemPlace)
    (h : DataW.trod enc P w base spare held fuel t cs = some x) : cs.length = n := by
  obtain ⟨_, _, _, _, hl, _⟩ := DataW.trod_struct ht h
  rw [hl, hn]
def TBlk : Reader (Int × Int × Int × Int × Int × Int × Int × Unit) := RCons 1 (RInt .u32) (RCons 1 (RInt .u8) (RCons 1 (RInt .i32) (RCons 1 (RInt .u32) (RCons 1 (RInt .u32) (RCons 1 (RInt .u32) (RCons 1 (RInt .u32) RNil))))))
theorem blk_of_t {w : World} {cs : List Value} {y : Int × Int × Int × Int × Int × Int × Int × Unit} (hl : cs.length = 7) (h : TBlk w cs y) : ∃ z, RBlk w cs z := by
  match cs, hl with
  | [k0, k1, k2, k3, k4, k5, k6], _ =>
    obtain ⟨⟨r0, b0⟩, ⟨r1, b1⟩, ⟨r2, b2⟩, ⟨r3, b3⟩, ⟨r4, b4⟩, ⟨r5, b5⟩, ⟨r6, b6⟩, _⟩ := h
    simp at r0 r1 r2 r3 r4 r5 r6
    subst r0 r1 r2 r3 r4 r5 r6
    exact ⟨⟨_, _, _, _, _, _, _⟩, rfl, ⟨bounds_u32 b0, bounds_u8 b1, bounds_i32 b2, bounds_u32 b3, bounds_u32 b4, bounds_u32 b5, bounds_u32 b6⟩⟩
theorem opensBlk : Opens Try.prog 134 RBlk :=
  Opens.map (R := TBlk) (Opens.struct Try.underlying134 (by kernel_rfl) (OpensF.cons rfl (by kernel_rfl) (Opens.int Try.underlying22) (OpensF.cons rfl (by kernel_rfl) (Opens.int Try.underlying5) (OpensF.cons rfl (by kernel_rfl) (Opens.int Try.underlying21) (OpensF.cons rfl (by kernel_rfl) (Opens.int Try.underlying22) (OpensF.cons rfl (by kernel_rfl) (Opens.int Try.underlying22) (OpensF.cons rfl (by kernel_rfl) (Opens.int Try.underlying22) (OpensF.cons rfl (by kernel_rfl) (Opens.int Try.underlying22) OpensF.nil))))))))
    7 (trod_len Try.underlying134 (by kernel_rfl)) (fun _ _ _ hl h => blk_of_t hl h)
def TInf : Reader (Int × Int × Int × Int × Int × Unit) := RCons 1 (RInt .u32) (RCons 1 (RInt .u32) (RCons 1 (RInt .u32) (RCons 1 (RInt .u32) (RCons 1 (RInt .u32) RNil))))
theorem opensInfT : Opens Try.prog 24 TInf :=
  Opens.struct Try.underlying24 (by kernel_rfl) (OpensF.cons rfl (by kernel_rfl) (Opens.int Try.underlying22) (OpensF.cons rfl (by kernel_rfl) (Opens.int Try.underlying22) (OpensF.cons rfl (by kernel_rfl) (Opens.int Try.underlying22) (OpensF.cons rfl (by kernel_rfl) (Opens.int Try.underlying22) (OpensF.cons rfl (by kernel_rfl) (Opens.int Try.underlying22) OpensF.nil)))))
def TRep : Reader (Bool × Int × (Int × Int × Int × Int × Int × Unit) × List Blk × Unit) := RCons 1 RBool (RCons 1 (RInt .u32) (RCons 5 TInf (RCons 1 (RSl 7 RBlk) RNil)))
theorem slP_mem {α : Type} {n : Nat} {R : Reader α} {w : World} {v : Value} {L : List α} (h : SlP n R w v L) {p : α → Prop} (hp : ∀ cs y, R w cs y → p y) : ∀ b ∈ L, p b := by
  obtain ⟨_, _, _, _, h3, _⟩ := h
  intro b hb
  obtain ⟨i, hi, rfl⟩ := List.mem_iff_getElem.1 hb
  obtain ⟨_, _, _, _, _, _, _, hr⟩ := h3 i hi
  exact hp _ _ hr
theorem rep_of_t {w : World} {cs : List Value} {y : Bool × Int × (Int × Int × Int × Int × Int × Unit) × List Blk × Unit} (hl : cs.length = 8) (h : TRep w cs y) : ∃ z, RRep w cs z := by
  match cs, hl with
  | [k0, k1, k2, k3, k4, k5, k6, k7], _ =>
    obtain ⟨r0, ⟨r1, b1⟩, ⟨⟨r2, b2⟩, ⟨r3, b3⟩, ⟨r4, b4⟩, ⟨r5, b5⟩, ⟨r6, b6⟩, _⟩, ⟨vb, r7, s7⟩, _⟩ := h
    simp [RBool] at r0 r1 r2 r3 r4 r5 r6 r7
    subst r0 r1 r2 r3 r4 r5 r6 r7
    exact ⟨⟨_, _, ⟨_, _, _, _, _⟩, _⟩, k7, rfl, s7, ⟨bounds_u32 b1, ⟨bounds_u32 b2, bounds_u32 b3, bounds_u32 b4, bounds_u32 b5, bounds_u32 b6⟩, slP_mem s7 fun _ _ h => h.2⟩⟩
theorem opensRep : Opens Try.prog 27 RRep :=
  Opens.map (R := TRep) (Opens.struct Try.underlying27 (by kernel_rfl) (OpensF.cons rfl (by kernel_rfl) (Opens.bool Try.underlying4) (OpensF.cons rfl (by kernel_rfl) (Opens.int Try.underlying22) (OpensF.cons rfl (by kernel_rfl) opensInfT (OpensF.cons rfl (by kernel_rfl) (Opens.sl Try.underlying25 (by kernel_rfl) (by decide) opensBlk) OpensF.nil)))))
    8 (trod_len Try.underlying27 (by kernel_rfl)) (fun _ _ _ hl h => rep_of_t hl h)
/-- What a block in a row reads as. -/
def blk0 : Blk := ⟨0, 0, 0, 0, 0, 0, 0⟩
structure BlkAt (w : World) (b off i : Nat) (t : Blk) : Prop where
  c0 : w.cell? ⟨b, off + i * 7, none⟩ = some (.int .u32 t.src)
  c1 : w.cell? ⟨b, off + i * 7 + 1, none⟩ = some (.int .u8 t.part)
  c2 : w.cell? ⟨b, off + i * 7 + 2, none⟩ = some (.int .i32 t.miss)
  c3 : w.cell? ⟨b, off + i * 7 + 3, none⟩ = some (.int .u32 t.high)
  c4 : w.cell? ⟨b, off + i * 7 + 4, none⟩ = some (.int .u32 t.jit)
  c5 : w.cell? ⟨b, off + i * 7 + 5, none⟩ = some (.int .u32 t.last)
  c6 : w.cell? ⟨b, off + i * 7 + 6, none⟩ = some (.int .u32 t.dly)
  ok : BlkOK t
theorem BlkAt.more {w w' : World} {b off i : Nat} {t : Blk} (h : BlkAt w b off i t) (m : More w w') (hb : b < w.heap.size) : BlkAt w' b off i t := by
  obtain ⟨h0, h1, h2, h3, h4, h5, h6, h7⟩ := h
  exact ⟨by rw [m.cells b _ hb]; exact h0, by rw [m.cells b _ hb]; exact h1, by rw [m.cells b _ hb]; exact h2, by rw [m.cells b _ hb]; exact h3, by rw [m.cells b _ hb]; exact h4, by rw [m.cells b _ hb]; exact h5, by rw [m.cells b _ hb]; exact h6, h7⟩
theorem blks {w : World} {v : Value} {l : List Blk} (h : SlP 7 RBlk w v l) : ∃ oa cap, v = .slice oa l.length cap ∧ (l.length : Int) ≤ 9223372036854775807 ∧ ∀ i, i < l.length → ∃ b off, oa = some ⟨b, off, none⟩ ∧ b < w.heap.size ∧ BlkAt w b off i (l.getD i blk0) := by
  obtain ⟨oa, cap, h1, h2, h3, _⟩ := h
  refine ⟨oa, cap, h1, h2, fun i hi => ?_⟩
  obtain ⟨b, off, cs, e, hb, hl, hc, rfl, hk⟩ := h3 i hi
  have eg : l.getD i blk0 = l[i] := by simp [hi]
  rw [eg]
  exact ⟨b, off, e, hb, hc 0 (by omega), hc 1 (by omega), hc 2 (by omega), hc 3 (by omega), hc 4 (by omega), hc 5 (by omega), hc 6 (by omega), hk⟩
end Go.Proofs.Ytlnikmcimmnbmaa
