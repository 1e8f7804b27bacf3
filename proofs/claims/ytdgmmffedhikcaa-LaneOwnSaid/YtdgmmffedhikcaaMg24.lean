/- Merged from my texts LaneY, LaneE. -/
import Derived.Test.YtdgmmffedhikcaaMg23
import Derived.Test.YtdgmmffedhikcaaMg13
import Derived.Test.YtdgmmffedhikcaaMg17
import Derived.Test.YtdgmmffedhikcaaMg15
import Derived.Test.YtdgmmffedhikcaaMg14
/- A lane's Drain. (printed by gen_laneY.py) -/
namespace Go.Proofs.Ytdgmmffedhikcaa
set_option linter.unusedSimpArgs false
set_option linter.unusedVariables false
open Go.RowKit
set_option maxRecDepth 100000

theorem owns_base {w : World} {base base' e n m : Nat} {v : Value} {xs : List Value} (h : w.ownsRow base e n v m xs) (hb : base' ≤ base) : w.ownsRow base' e n v m xs := by
  obtain ⟨h1, h2⟩ := h
  refine ⟨h1, ?_⟩
  rcases h2 with h | ⟨b, cap, cur, e1, hb1, rest⟩
  · exact Or.inl h
  · exact Or.inr ⟨b, cap, cur, e1, Nat.le_trans hb hb1, rest⟩
theorem Grew_trans {N : Nat → Prop} {w w1 w2 : World} (h1 : w.heap.size ≤ w1.heap.size) (h2 : w1.heap.size ≤ w2.heap.size) : Grew (Grew N w w1) w1 w2 = Grew N w w2 := by
  funext b
  apply propext
  unfold Grew
  constructor
  · rintro ((e | e) | e)
    · exact Or.inl e
    · exact Or.inr ⟨e.1, by omega⟩
    · exact Or.inr ⟨by omega, e.2⟩
  · rintro (e | e)
    · exact Or.inl (Or.inl e)
    · by_cases h : b < w1.heap.size
      · exact Or.inl (Or.inr ⟨e.1, h⟩)
      · exact Or.inr ⟨by omega, e.2⟩
theorem Away.grew {N : Nat → Prop} {w w1 w2 : World} (h1 : Away N w w1) (h2 : Away (Grew N w w1) w1 w2) : Away N w w2 :=
  ⟨h2.os.trans h1.os, h2.tape.trans h1.tape, h2.output.trans h1.output, Nat.le_trans h1.size h2.size, fun k hk hn => by
    rw [h2.block k (Nat.lt_of_lt_of_le hk h1.size) (fun e => by rcases e with e | e; exact hn e; omega), h1.block k hk hn]⟩
theorem RowP.widen {α : Type} {n : Nat} {R : Reader α} {D D' : Nat → Prop} {w : World} {base e : Nat} {v : Value} {L : List α} (h : RowP n R D w base e v L) (k : ∀ b, D' b → D b ∨ w.heap.size ≤ b) : RowP n R D' w base e v L := by
  have hl := fun {b} (hb : v.ownBlock = some b) => h.lt hb
  obtain ⟨⟨xs, o, r⟩, ap⟩ := h
  refine ⟨⟨xs, o, fun i hi => (r i hi).other fun b hb => ?_⟩, fun b hb hD => ?_⟩
  · rcases hb with e | e
    · rcases k b e with e | e
      · exact Or.inl (Or.inl e)
      · exact Or.inr e
    · exact Or.inl (Or.inr e)
  · rcases k b hD with e | e
    · exact ap b hb e
    · have := hl hb
      omega
section
variable {D : Nat → Prop} {w : World}
theorem items_ids {q : List (List Value)} {l : List ItS} (a : All2 (RdOff RIt D w) q l) : q.map idN = l.map (·.id) ∧ ∀ c ∈ q, ∃ i r, c = .int .i64 i :: r ∧ r.length = 12 := by
  induction l generalizing q with
  | nil => rw [a.nil_r]; exact ⟨rfl, fun c hc => by simp at hc⟩
  | cons y l ih =>
    obtain ⟨c, q', rfl, hr, a'⟩ := a.uncons
    obtain ⟨h1, h2⟩ := ih a'
    obtain ⟨vs, ve, vp, rfl, _⟩ := hr.read
    refine ⟨by rw [List.map_cons, List.map_cons, h1]; rfl, fun c hc => ?_⟩
    rcases List.mem_cons.1 hc with rfl | hc
    · exact ⟨_, _, rfl, rfl⟩
    · exact h2 c hc
theorem chos_ids {q : List (List Value)} {l : List (ItS × Bool)} (a : All2 (RdOff RCh D w) q l) : q.map idN = l.map (·.1.id) ∧ ∀ c ∈ q, ∃ i r, c = .int .i64 i :: r ∧ r.length = 13 := by
  induction l generalizing q with
  | nil => rw [a.nil_r]; exact ⟨rfl, fun c hc => by simp at hc⟩
  | cons y l ih =>
    obtain ⟨c, q', rfl, hr, a'⟩ := a.uncons
    obtain ⟨h1, h2⟩ := ih a'
    obtain ⟨vs, ve, vp, rfl, _⟩ := hr.read
    refine ⟨by rw [List.map_cons, List.map_cons, h1]; rfl, fun c hc => ?_⟩
    rcases List.mem_cons.1 hc with rfl | hc
    · exact ⟨_, _, rfl, rfl⟩
    · exact h2 c hc
theorem outs_ids {q : List (List Value)} {l : List (Int × List Int)} (a : All2 (RdOff ROu D w) q l) : q.map idN = l.map (·.1) ∧ ∀ c ∈ q, ∃ i r, c = .int .i64 i :: r ∧ r.length = 1 := by
  induction l generalizing q with
  | nil => rw [a.nil_r]; exact ⟨rfl, fun c hc => by simp at hc⟩
  | cons y l ih =>
    obtain ⟨c, q', rfl, hr, a'⟩ := a.uncons
    obtain ⟨h1, h2⟩ := ih a'
    obtain ⟨v, rfl, _⟩ := hr.read
    refine ⟨by rw [List.map_cons, List.map_cons, h1]; rfl, fun c hc => ?_⟩
    rcases List.mem_cons.1 hc with rfl | hc
    · exact ⟨_, _, rfl, rfl⟩
    · exact h2 c hc
end
section
variable {N : Nat → Prop} {w w' : World} {k : LnB} {vo : Value} {s s' : LnS}
set_option maxHeartbeats 2000000 in
theorem drain1_ln (h : LnX N w k vo s) : Calls Try.prog 53 #[.pointer (some ⟨k.L, 0, none⟩), .int .i64 1] w fun e w' => (∃ v, e = .returned v ∧ w'.ownsRow w.heap.size 3 1 v (s.A.map (·.id)).length ((s.A.map (·.id)).map (Value.int .i64))) ∧ LnX (Grew N w w') w' k vo { s with A := [] } ∧ Away k.muts w w' := by
  have c1 : w.cell? ⟨k.L, 1, none⟩ = some (.pointer (some ⟨k.R1, 0, none⟩)) := blk_cell h.blk 1 rfl
  have hL : k.L < w.heap.size := blk_lt h.blk
  have H := Lib.hid h
  have D1 := Lib.hid h.dist
  obtain ⟨f1, q1, ci1, co1, cd1, cg1, css1, g1, a1⟩ := h.r1
  have G1 := Lib.hid g1
  have Q1 := Lib.hid (items_ids a1).2
  have I1 := Lib.hid (items_ids a1).1
  have U1 : Hid (∀ c ∈ q1, ∀ u ∈ c, u.oneCell' = true) := Lib.hid fun c hc => (g1.qall c hc).2
  have hl1 : q1.length ≤ 8 := by have := g1.fits; have := g1.pos; omega
  have hR1 : k.R1 < w.heap.size := blk_lt g1.ring
  have hA1 : k.A1 < w.heap.size := blk_lt g1.row
  clear h g1 a1
  go_enter Try.func53, Try.ntmps53
  go_wp2_with (first | (go_at_call 82; ((with_reducible refine (drainI w k.R1 k.A1 s.room f1 q1 ci1 co1 cd1 cg1 css1 G1.out).mono ?_); rintro e w1 ⟨v1, rfl, o1, g1, a1⟩; have O1 := Lib.hid o1; have G2 := Lib.hid g1; have A2 := Lib.hid a1; clear o1 g1 a1)) | (go_at_call 81; ((with_reducible refine (idsI w1 v1 q1 w.heap.size O1.out Q1.out U1.out hl1).mono ?_); rintro e w2 ⟨⟨v2, rfl, o2⟩, m2⟩; have O2 := Lib.hid o2; have M2 := Lib.hid m2; clear o2 m2)))
  go_ret
  obtain ⟨⟨d1, d2, d3, d4, d5, d6⟩, ⟨e1, e2, e3, e4, e5⟩, ⟨i1, i2, i3, i4⟩, ⟨j1, j2, j3⟩, ⟨k1, k2⟩, _⟩ := D1.out
  have AS : Away (RgB k.R1 k.A1) w w2 := A2.out.more M2.out
  have hmu : ∀ b, RgB k.R1 k.A1 b → k.muts b := fun b hb => Or.inr (Or.inl hb)
  have AM : Away k.muts w w2 := AS.mono hmu
  have hv : ∀ b, vo.ownBlock = some b → vo.ownBlock = some b ∨ w.heap.size ≤ b := fun b hb => Or.inl hb
  have hE : ∀ b, RgB k.R1 k.A1 b → lnE N k vo b := fun b hb => mut_E (hmu b hb)
  have hok := H.out.ok
  obtain ⟨f3, cg3, css3, g3⟩ := G2.out
  have O3 := owns_base O2.out A2.out.size
  rw [I1.out] at O3
  exact ⟨⟨_, rfl, O3⟩, H.out.make AM.size (AS.blk H.out.blk (by rintro (e | e) <;> omega)) ⟨_, _, _, _, _, _, _, g3.more M2.out, trivial⟩ (H.out.r2.step AS (by rintro (e | e) <;> omega) (by rintro (e | e) <;> omega) hE fun b hb => Or.inl (lnE_sub H.out.own hv hb)) (H.out.r3.step AS (by rintro (e | e) <;> omega) (by rintro (e | e) <;> omega) hE fun b hb => Or.inl (lnE_sub H.out.own hv hb)) (H.out.rows AM) ⟨hok.most, hok.row, hok.lt, hok.sq, hok.src⟩, AM⟩
set_option maxHeartbeats 2000000 in
theorem drain2_ln (h : LnX N w k vo s) : Calls Try.prog 53 #[.pointer (some ⟨k.L, 0, none⟩), .int .i64 2] w fun e w' => (∃ v, e = .returned v ∧ w'.ownsRow w.heap.size 3 1 v (s.B.map (·.1.id)).length ((s.B.map (·.1.id)).map (Value.int .i64))) ∧ LnX (Grew N w w') w' k vo { s with B := [] } ∧ Away k.muts w w' := by
  have c1 : w.cell? ⟨k.L, 2, none⟩ = some (.pointer (some ⟨k.R2, 0, none⟩)) := blk_cell h.blk 2 rfl
  have hL : k.L < w.heap.size := blk_lt h.blk
  have H := Lib.hid h
  have D1 := Lib.hid h.dist
  obtain ⟨f1, q1, ci1, co1, cd1, cg1, css1, g1, a1⟩ := h.r2
  have G1 := Lib.hid g1
  have Q1 := Lib.hid (chos_ids a1).2
  have I1 := Lib.hid (chos_ids a1).1
  have U1 : Hid (∀ c ∈ q1, ∀ u ∈ c, u.oneCell' = true) := Lib.hid fun c hc => (g1.qall c hc).2
  have hl1 : q1.length ≤ 8 := by have := g1.fits; have := g1.pos; omega
  have hR1 : k.R2 < w.heap.size := blk_lt g1.ring
  have hA1 : k.A2 < w.heap.size := blk_lt g1.row
  clear h g1 a1
  go_enter Try.func53, Try.ntmps53
  go_wp2_with (first | (go_at_call 85; ((with_reducible refine (drainC w k.R2 k.A2 s.room f1 q1 ci1 co1 cd1 cg1 css1 G1.out).mono ?_); rintro e w1 ⟨v1, rfl, o1, g1, a1⟩; have O1 := Lib.hid o1; have G2 := Lib.hid g1; have A2 := Lib.hid a1; clear o1 g1 a1)) | (go_at_call 84; ((with_reducible refine (idsC w1 v1 q1 w.heap.size O1.out Q1.out U1.out hl1).mono ?_); rintro e w2 ⟨⟨v2, rfl, o2⟩, m2⟩; have O2 := Lib.hid o2; have M2 := Lib.hid m2; clear o2 m2)))
  go_ret
  obtain ⟨⟨d1, d2, d3, d4, d5, d6⟩, ⟨e1, e2, e3, e4, e5⟩, ⟨i1, i2, i3, i4⟩, ⟨j1, j2, j3⟩, ⟨k1, k2⟩, _⟩ := D1.out
  have AS : Away (RgB k.R2 k.A2) w w2 := A2.out.more M2.out
  have hmu : ∀ b, RgB k.R2 k.A2 b → k.muts b := fun b hb => Or.inr (Or.inr (Or.inl hb))
  have AM : Away k.muts w w2 := AS.mono hmu
  have hv : ∀ b, vo.ownBlock = some b → vo.ownBlock = some b ∨ w.heap.size ≤ b := fun b hb => Or.inl hb
  have hE : ∀ b, RgB k.R2 k.A2 b → lnE N k vo b := fun b hb => mut_E (hmu b hb)
  have hok := H.out.ok
  obtain ⟨f3, cg3, css3, g3⟩ := G2.out
  have O3 := owns_base O2.out A2.out.size
  rw [I1.out] at O3
  exact ⟨⟨_, rfl, O3⟩, H.out.make AM.size (AS.blk H.out.blk (by rintro (e | e) <;> omega)) (H.out.r1.step AS (by rintro (e | e) <;> omega) (by rintro (e | e) <;> omega) hE fun b hb => Or.inl (lnE_sub H.out.own hv hb)) ⟨_, _, _, _, _, _, _, g3.more M2.out, trivial⟩ (H.out.r3.step AS (by rintro (e | e) <;> omega) (by rintro (e | e) <;> omega) hE fun b hb => Or.inl (lnE_sub H.out.own hv hb)) (H.out.rows AM) ⟨hok.most, hok.row, hok.lt, hok.sq, hok.src⟩, AM⟩
set_option maxHeartbeats 2000000 in
theorem drain3_ln (h : LnX N w k vo s) : Calls Try.prog 53 #[.pointer (some ⟨k.L, 0, none⟩), .int .i64 3] w fun e w' => (∃ v, e = .returned v ∧ w'.ownsRow w.heap.size 3 1 v (s.C.map (·.1)).length ((s.C.map (·.1)).map (Value.int .i64))) ∧ LnX (Grew N w w') w' k vo { s with C := [] } ∧ Away k.muts w w' := by
  have c1 : w.cell? ⟨k.L, 3, none⟩ = some (.pointer (some ⟨k.R3, 0, none⟩)) := blk_cell h.blk 3 rfl
  have hL : k.L < w.heap.size := blk_lt h.blk
  have H := Lib.hid h
  have D1 := Lib.hid h.dist
  obtain ⟨f1, q1, ci1, co1, cd1, cg1, css1, g1, a1⟩ := h.r3
  have G1 := Lib.hid g1
  have Q1 := Lib.hid (outs_ids a1).2
  have I1 := Lib.hid (outs_ids a1).1
  have U1 : Hid (∀ c ∈ q1, ∀ u ∈ c, u.oneCell' = true) := Lib.hid fun c hc => (g1.qall c hc).2
  have hl1 : q1.length ≤ 8 := by have := g1.fits; have := g1.pos; omega
  have hR1 : k.R3 < w.heap.size := blk_lt g1.ring
  have hA1 : k.A3 < w.heap.size := blk_lt g1.row
  clear h g1 a1
  go_enter Try.func53, Try.ntmps53
  go_wp2_with (first | (go_at_call 88; ((with_reducible refine (drainO w k.R3 k.A3 s.room f1 q1 ci1 co1 cd1 cg1 css1 G1.out).mono ?_); rintro e w1 ⟨v1, rfl, o1, g1, a1⟩; have O1 := Lib.hid o1; have G2 := Lib.hid g1; have A2 := Lib.hid a1; clear o1 g1 a1)) | (go_at_call 87; ((with_reducible refine (idsO w1 v1 q1 w.heap.size O1.out Q1.out U1.out hl1).mono ?_); rintro e w2 ⟨⟨v2, rfl, o2⟩, m2⟩; have O2 := Lib.hid o2; have M2 := Lib.hid m2; clear o2 m2)))
  go_ret
  obtain ⟨⟨d1, d2, d3, d4, d5, d6⟩, ⟨e1, e2, e3, e4, e5⟩, ⟨i1, i2, i3, i4⟩, ⟨j1, j2, j3⟩, ⟨k1, k2⟩, _⟩ := D1.out
  have AS : Away (RgB k.R3 k.A3) w w2 := A2.out.more M2.out
  have hmu : ∀ b, RgB k.R3 k.A3 b → k.muts b := fun b hb => Or.inr (Or.inr (Or.inr hb))
  have AM : Away k.muts w w2 := AS.mono hmu
  have hv : ∀ b, vo.ownBlock = some b → vo.ownBlock = some b ∨ w.heap.size ≤ b := fun b hb => Or.inl hb
  have hE : ∀ b, RgB k.R3 k.A3 b → lnE N k vo b := fun b hb => mut_E (hmu b hb)
  have hok := H.out.ok
  obtain ⟨f3, cg3, css3, g3⟩ := G2.out
  have O3 := owns_base O2.out A2.out.size
  rw [I1.out] at O3
  exact ⟨⟨_, rfl, O3⟩, H.out.make AM.size (AS.blk H.out.blk (by rintro (e | e) <;> omega)) (H.out.r1.step AS (by rintro (e | e) <;> omega) (by rintro (e | e) <;> omega) hE fun b hb => Or.inl (lnE_sub H.out.own hv hb)) (H.out.r2.step AS (by rintro (e | e) <;> omega) (by rintro (e | e) <;> omega) hE fun b hb => Or.inl (lnE_sub H.out.own hv hb)) ⟨_, _, _, _, _, _, _, g3.more M2.out, trivial⟩ (H.out.rows AM) ⟨hok.most, hok.row, hok.lt, hok.sq, hok.src⟩, AM⟩
def drainP (s : LnS) (n : Int) : LnS := { s with A := if n = 1 then [] else s.A, B := if n = 2 then [] else s.B, C := if n = 3 then [] else s.C }
/-- A stage that is there. -/
theorem drain_ln (h : LnX N w k vo s) (n : Int) (hn : n = 1 ∨ n = 2 ∨ n = 3) : Calls Try.prog 53 #[.pointer (some ⟨k.L, 0, none⟩), .int .i64 n] w fun e w' => (∃ v, e = .returned v) ∧ LnX (Grew N w w') w' k vo (drainP s n) ∧ Away k.muts w w' := by
  rcases hn with rfl | rfl | rfl
  · refine (drain1_ln h).mono ?_
    rintro e w' ⟨⟨v, rfl, _⟩, h1, h2⟩
    exact ⟨⟨v, rfl⟩, h1, h2⟩
  · refine (drain2_ln h).mono ?_
    rintro e w' ⟨⟨v, rfl, _⟩, h1, h2⟩
    exact ⟨⟨v, rfl⟩, h1, h2⟩
  · refine (drain3_ln h).mono ?_
    rintro e w' ⟨⟨v, rfl, _⟩, h1, h2⟩
    exact ⟨⟨v, rfl⟩, h1, h2⟩
end
end Go.Proofs.Ytdgmmffedhikcaa
/- Contracts of package ring at lane's Out: Peek. -/
namespace Go.Proofs.Ytdgmmffedhikcaa
set_option linter.unusedSimpArgs false
set_option linter.unusedVariables false
open Go.RowKit
set_option maxRecDepth 100000

set_option maxHeartbeats 4000000 in
theorem peekO (w : World) (R A room first : Nat) (c : List Value) (T : List (List Value)) (ci co cd cg : Int) (css : List (List Value)) (h : RgAt 2 153 78 w R A room first (c :: T) ci co cd cg css) :
    Calls Try.prog 50 #[.pointer (some ⟨R, 0, none⟩)] w fun e w' => e = .returned (.tuple #[.agg c.toArray, .bool true]) ∧ More w w' := by
  have H0 := Lib.hid h
  have hc := h.ofHead
  have hcs : c.toArray.size = 2 := by simpa using hc.1
  have hf := h.fst
  have hfi : (first : Int) < (room : Int) := by have := h.fst; omega
  have hfi0 : 0 ≤ (first : Int) := by omega
  have hb2 : (((c :: T).length : Int) == 0) = false := by simp; omega
  have hRw : R < w.heap.size := blk_lt h.ring
  have r2 : (w.alloc (.cells #[.int .i64 0, .slice none 0 0] 78)).cell? ⟨R, 2, none⟩ = some (.int .i64 (c :: T).length) := blk_cell (blk_alloc h.ring _) 2 rfl
  clear h
  go_enter Try.func50, Try.ntmps50
  go_wp2
  obtain ⟨W1, hW1⟩ : ∃ W1, w.alloc (.cells #[.int .i64 0, .slice none 0 0] 78) = W1 := ⟨_, rfl⟩
  have M1 : Hid (More w W1) := Lib.hid (by rw [← hW1]; exact More.alloc _ _)
  have H1 := Lib.hid (H0.out.more M1.out)
  have B1 : Hid (W1.heap[w.heap.size]? = some (.cells #[.int .i64 0, .slice none 0 0] 78 (0, 0))) := Lib.hid (by rw [← hW1]; exact blk_new w _)
  rw [hW1]
  clear hW1 r2
  have L0 : ∀ x : Later W1, x.w'.cell? ⟨R, 0, none⟩ = some (.slice (some ⟨A, 0, none⟩) room room) := fun x => x.cell (blk_lt H1.out.ring) (blk_cell H1.out.ring 0 rfl)
  have L1 : ∀ x : Later W1, x.w'.cell? ⟨R, 1, none⟩ = some (.int .i64 first) := fun x => x.cell (blk_lt H1.out.ring) (blk_cell H1.out.ring 1 rfl)
  have HG : ∀ x : Later W1, x.w'.rangeAt A (first * 2) c := fun x => by have := (H1.out.more x.h).range hf; rw [H1.out.head] at this; exact this
  refine wp_region_num W1 10 [(0, false), (1, false), (2, false), (3, false), (4, false), (5, false), (6, false), (7, false), (8, false), (9, false), (10, true), (11, true)] (by kernel_rfl) (by kernel_rfl) ?_
  iterate 9 (refine num_quiet rfl rfl (later_mk (by repeat (first | exact More.refl _ | assumption | refine More.dr ?_ _ | refine More.al ?_ _ | refine More.st ?_ (by simp) _))) ?_; intro K hK; go_big_quiet_op; go_big_quiet_on)
  refine num_load_mid rfl rfl (later_mk (by repeat (first | exact More.refl _ | assumption | refine More.dr ?_ _ | refine More.al ?_ _ | refine More.st ?_ (by simp) _))) 78 (.tmp 19) rfl A (first * 2) rfl c _ (fun w' hx => by obtain ⟨x, rfl⟩ := hx; exact HG x) Try.underlying78 rfl (by rw [hc.1]; kernel_rfl) ?_
  intro K hK
  go_simp
  refine hK _ ?_
  clear hK K
  refine num_end rfl rfl (by decide) ?_
  intro K hK
  refine loud_store_all 78 (.tmp 2) (.tmp 20) rfl w.heap.size 78 _ c.toArray rfl rfl (blk_drewN B1.out 1) (by rw [hcs]; kernel_rfl) (by rw [hcs]; rfl) (all_oneCell_toArray hc.2) ?_
  refine ⟨trivial, ?_⟩
  go_simp
  refine hK _ _ ?_
  clear hK K
  (refine num_end rfl rfl (by decide) ?_; intro K hK; unfold loud; go_simp)
  refine hK _ _ ?_
  clear hK K
  refine num_nil ?_
  go_wp2
  refine bodyPost_ret (v := .tuple #[.agg c.toArray, .bool true]) (lnRes2 Try.results50 _ _ w.heap.size 78 c.toArray _ _ rfl rfl (lnBlk (blk_drewN B1.out 1) _) Try.underlying78 rfl (by rw [hcs]; kernel_rfl)) rfl ?_
  exact ⟨rfl, (lnAway _ _ _).to_more (M1.out.dr 1) (fun k e => by rw [e]; exact Nat.le_refl _)⟩
end Go.Proofs.Ytdgmmffedhikcaa
