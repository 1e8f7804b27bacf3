/- Merged from my texts LaneV. -/
import Derived.Test.YtdgmmffedhikcaaMg20
/- A lane's Rewrite: what it needs. -/
namespace Go.Proofs.Ytdgmmffedhikcaa
set_option linter.unusedSimpArgs false
set_option linter.unusedVariables false
open Go.RowKit
set_option maxRecDepth 100000

theorem ln_bysA (n s : Int) : Byt (bysA n s) := by
  unfold bysA
  split
  · exact Byt_bys _ _
  · exact byt_nil
theorem ln_ssB (l : List Int) : Byt (ssB l) := by
  induction l with
  | nil => exact byt_nil
  | cons x l ih => exact byt_app (ln_bysA _ _) ih
theorem ln_preB {p : Pk} (h : PkOK p) : Byt (preB p) := by
  unfold preB fixB extB
  refine byt_app (byt_app (byt_app (byt_app (byt_app (byt_app ?_ ?_) ?_) ?_) ?_) (ln_ssB _)) ?_
  all_goals try exact ln_bysA _ _
  split
  · exact byt_app (byt_app (ln_bysA _ _) (ln_bysA _ _)) h.ex
  · exact byt_nil
theorem ln_pkB {p : Pk} (h : PkOK p) : Byt (pkB p) := byt_app (ln_preB h) h.pl
/-- A new block's cell is written. -/
theorem Away.setNew {S : Nat → Prop} {a b : World} (h : Away S a b) {p : Addr} (hp : a.heap.size ≤ p.block) (v : Value) : Away S a (b.setCell p v) :=
  ⟨h.os, h.tape, h.output, by simpa [World.setCell] using h.size, fun k hk hs => by rw [Below.heap_setCell _ _ _ _ (fun e => by omega)]; exact h.block k hk hs⟩
theorem lnLtO {w : World} {base e size n b : Nat} {v : Value} {xs : List Value} (h : w.ownsRow base e size v n xs) (hb : v.ownBlock = some b) : b < w.heap.size := by
  rcases h.2 with ⟨rfl, _⟩ | ⟨g, cap, cur, rfl, _, hg, _⟩
  · cases hb
  · obtain rfl : g = b := by injection hb
    exact lt_of_block hg
def pushQ (room : Nat) (q : List (List Value)) (x : List Value) : List (List Value) := if q.length < room then q ++ [x] else q.tail ++ [x]
theorem pushO_any (w0 : World) (R A room f : Nat) (q : List (List Value)) (ci co cd cg : Int) (css : List (List Value)) (h0 : RgAt 2 153 78 w0 R A room f q ci co cd cg css)
    (hs : ∀ c ∈ q, ∃ i oa n cp, c = [.int .i64 i, .slice oa n cp]) (x : List Value) (hx : x.length = 2 ∧ ∀ u ∈ x, u.oneCell' = true) :
    ∃ old oa n cp, (old = if q.length < room then 0 else (q.head?.map idN).getD 0) ∧
    ∀ w, RgAt 2 153 78 w R A room f q ci co cd cg css → Calls Try.prog 49 #[.pointer (some ⟨R, 0, none⟩), .agg x.toArray] w fun e w' => e = .returned (.tuple #[.agg #[.int .i64 old, .slice oa n cp], .bool (decide (¬ q.length < room)), .int .i64 0]) ∧
      (∃ f' ci' cd' css', RgAt 2 153 78 w' R A room f' (pushQ room q x) ci' co cd' cg css') ∧ Away (RgB R A) w w' := by
  by_cases hq : q.length < room
  · refine ⟨0, none, 0, 0, by rw [if_pos hq], fun w h => ?_⟩
    have hd : decide (¬ q.length < room) = false := by simp [hq]
    have hp : pushQ room q x = q ++ [x] := by unfold pushQ; rw [if_pos hq]
    rw [hd, hp]
    refine (pushO_room w R A room f q ci co cd cg css h hq x hx).mono ?_
    rintro e w' ⟨rfl, ⟨ci', g⟩, a⟩
    exact ⟨rfl, ⟨_, _, _, _, g⟩, a⟩
  · have hfit := h0.fits
    have hpos := h0.pos
    cases q with
    | nil => simp at hq; omega
    | cons c T =>
      obtain ⟨i, oa, n, cp, rfl⟩ := hs c (by simp)
      refine ⟨i, oa, n, cp, by rw [if_neg hq]; rfl, fun w h => ?_⟩
      have hd : decide (¬ ([.int .i64 i, .slice oa n cp] :: T).length < room) = true := by simpa using hq
      have hp : pushQ room ([.int .i64 i, .slice oa n cp] :: T) x = T ++ [x] := by unfold pushQ; rw [if_neg hq]; rfl
      rw [hd, hp]
      refine (pushO_full w R A room f [.int .i64 i, .slice oa n cp] T ci co cd cg css h (by omega) x hx).mono ?_
      rintro e w' ⟨rfl, ⟨ci', cd', g⟩, a⟩
      exact ⟨rfl, ⟨_, _, _, _, g⟩, a⟩
theorem All2.tl {α β : Type} {p : α → β → Prop} {l : List α} {m : List β} (h : All2 p l m) : All2 p l.tail m.tail := by
  cases l with
  | nil => cases m with
    | nil => exact trivial
    | cons b m => exact h.elim
  | cons a l => cases m with
    | nil => exact h.elim
    | cons b m => exact h.2
theorem pushed {α : Type} {R : Reader α} {D : Nat → Prop} {w : World} {room : Nat} {q : List (List Value)} {l : List α} {c : List Value} {y : α} (a : All2 (RdOff R D w) q l) (h : RdOff R D w c y) :
    All2 (RdOff R D w) (pushQ room q c) (if l.length < room then l ++ [y] else l.tail ++ [y]) := by
  unfold pushQ
  rw [a.len]
  split
  · exact a.snoc h
  · exact a.tl.snoc h
section
variable {N : Nat → Prop} {w w' : World} {k : LnB} {vo vo' : Value} {s s' : LnS}
/-- New data stay, whatever is written. -/
theorem LnX.fresh (h : LnX N w k vo s) {kd : IntKind} {v : Value} {l : List Int} (hsl : SlI kd w' v l) (hb : ∀ b, v.ownBlock = some b → w.heap.size ≤ b ∧ b < w'.heap.size) (hv : ∀ b, vo'.ownBlock = some b → vo.ownBlock = some b) {w'' : World} (a : Away (lnE (Grew N w w') k vo') w' w'') : SlI kd w'' v l := by
  refine hsl.off (fun b e hE => ?_) a
  obtain ⟨h1, h2⟩ := hb b e
  rcases hE with hE | hE
  · have := h.own b (h.muts b (hE (Or.inr ⟨h1, h2⟩)))
    omega
  · have := h.own b (h.vob (hv b hE)).1
    omega
theorem outs_shape {D : Nat → Prop} {q : List (List Value)} {l : List (Int × List Int)} (a : All2 (RdOff ROu D w) q l) : ∀ c ∈ q, ∃ i oa n cp, c = [.int .i64 i, .slice oa n cp] := fun c hc => by
  obtain ⟨o, _, hr⟩ := a.mem c hc
  obtain ⟨v, rfl, ⟨oa, cp, rfl, _⟩, _⟩ := hr.read
  exact ⟨_, _, _, _, rfl⟩
theorem outs_head {D : Nat → Prop} {q : List (List Value)} {l : List (Int × List Int)} (a : All2 (RdOff ROu D w) q l) : (q.head?.map idN).getD 0 = (l.head?.map (·.1)).getD 0 := by
  cases l with
  | nil => rw [a.nil_r]; rfl
  | cons o l =>
    obtain ⟨c, q', rfl, hr, _⟩ := a.uncons
    obtain ⟨v, rfl, _⟩ := hr.read
    rfl
end
end Go.Proofs.Ytdgmmffedhikcaa
