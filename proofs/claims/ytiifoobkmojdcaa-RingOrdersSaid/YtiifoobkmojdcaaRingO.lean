/- The law RingOrders: the rows of what came and what went. -/
import Derived.Test.YtiifoobkmojdcaaRingS
import Derived.Test.YtiifoobkmojdcaaSameI
namespace Go.Proofs.Ytiifoobkmojdcaa
open Go.RowKit
set_option maxRecDepth 100000

/-- Two rows of the call's own, beside one another. -/
structure Rows2 (base : Nat) (w : World) (vc vg : Value) (lc lg : List Int) : Prop where
  c : w.ownsRow base 3 1 vc lc.length (lc.map (Value.int .i64))
  g : w.ownsRow base 3 1 vg lg.length (lg.map (Value.int .i64))
  sep : ∀ b, vc.ownBlock = some b → vg.ownBlock ≠ some b
theorem Rows2.away {S : Nat → Prop} {base : Nat} {w w' : World} {vc vg : Value} {lc lg : List Int} (h : Rows2 base w vc vg lc lg) (m : Away S w w') (hs : ∀ k, S k → k < base) : Rows2 base w' vc vg lc lg := ⟨owns_away h.c m hs, owns_away h.g m hs, h.sep⟩
theorem Rows2.more {base : Nat} {w w' : World} {vc vg : Value} {lc lg : List Int} (h : Rows2 base w vc vg lc lg) (m : More w w') : Rows2 base w' vc vg lc lg := ⟨owns_more h.c m, owns_more h.g m, h.sep⟩
theorem Rows2.swap {base : Nat} {w : World} {vc vg : Value} {lc lg : List Int} (h : Rows2 base w vc vg lc lg) : Rows2 base w vg vc lg lc := ⟨h.g, h.c, fun b hb hc => h.sep b hc hb⟩
theorem Rows2.came {base : Nat} {w w' : World} {vc vg v' : Value} {lc lg lx : List Int} (h : Rows2 base w vc vg lc lg) (ho : w'.ownsRow base 3 1 v' (lc ++ lx).length ((lc ++ lx).map (Value.int .i64))) (g : w.grownBy w' vc.ownBlock) (hb : v'.ownBlock = vc.ownBlock ∨ v'.ownBlock = some w.heap.size) : Rows2 base w' v' vg (lc ++ lx) lg := by
  refine ⟨ho, owns_grown h.g g (fun b hb hc => h.sep b hc hb), fun b hvb hgb => ?_⟩
  rcases hb with hb | hb
  · exact h.sep b (hb ▸ hvb) hgb
  · have := owns_lt h.g hgb
    rw [hb] at hvb
    injection hvb with e
    omega
theorem Rows2.gone {base : Nat} {w w' : World} {vc vg v' : Value} {lc lg lx : List Int} (h : Rows2 base w vc vg lc lg) (ho : w'.ownsRow base 3 1 v' (lg ++ lx).length ((lg ++ lx).map (Value.int .i64))) (g : w.grownBy w' vg.ownBlock) (hb : v'.ownBlock = vg.ownBlock ∨ v'.ownBlock = some w.heap.size) : Rows2 base w' vc v' lc (lg ++ lx) :=
  (Rows2.came h.swap ho g hb).swap
theorem Rows2.grown_c {base R A room f : Nat} {w w' : World} {vc vg : Value} {lc lg : List Int} {s : RS} {cs : List Int} (h : Rows2 base w vc vg lc lg) (g : w.grownBy w' vc.ownBlock) (hr : RingAt w R A room f s cs) (hR : R < base) (hA : A < base) : RingAt w' R A room f s cs := hr.grown g h.c hR hA
theorem Rows2.grown_g {base R A room f : Nat} {w w' : World} {vc vg : Value} {lc lg : List Int} {s : RS} {cs : List Int} (h : Rows2 base w vc vg lc lg) (g : w.grownBy w' vg.ownBlock) (hr : RingAt w R A room f s cs) (hR : R < base) (hA : A < base) : RingAt w' R A room f s cs := hr.grown g h.g hR hA
theorem more_grown {w0 w w' : World} {base e size n : Nat} {v : Value} {xs : List Value} (m : More w0 w) (ho : w.ownsRow base e size v n xs) (g : w.grownBy w' v.ownBlock) (hb : w0.heap.size ≤ base) : More w0 w' :=
  m.grown g m.size (by
    rcases ho.2 with ⟨rfl, _⟩ | ⟨b, cap, cur, rfl, hb2, _⟩
    · intro q h; cases h
    · intro q h
      obtain rfl : b = q := by injection h
      omega)

/-- Where the law stands after so many acts. -/
def Ord13 (w0 : World) (base R A room j : Nat) (w : World) (vc vg : Value) (nc ng : Nat) : Prop :=
  ∃ lc lg f s cs, RingAt w R A room f s cs ∧ Sum13 s j ∧ Rows2 base w vc vg lc lg ∧ lc = lg ++ s.q ∧ nc = lc.length ∧ ng = lg.length ∧ nc ≤ j ∧ More w0 w
theorem slice_of_owns {w : World} {base : Nat} {v : Value} {l : List Int} (h : w.ownsRow base 3 1 v l.length (l.map (Value.int .i64))) : ∃ oa n cap, v = .slice oa n cap ∧ n = l.length ∧ n ≤ cap := by
  rcases h.2 with ⟨rfl, e⟩ | ⟨b, cap, cur, rfl, _, _, hc, _⟩
  · exact ⟨none, 0, 0, rfl, by omega, by omega⟩
  · exact ⟨_, _, cap, rfl, rfl, hc⟩
end Go.Proofs.Ytiifoobkmojdcaa
