/- The library's sort of integers. -/
import Derived.Shelf.Sort.Plain
import Derived.Shelf.Slices.In.SortNone
import Derived.Sort.OwnSortedInts
import Derived.Test.YtmhkjamibcdcdaaSliceB
import Derived.Test.YtmhkjamibcdcdaaRegion
import Derived.Test.YtmhkjamibcdcdaaRows
namespace Go.Proofs.Ytmhkjamibcdcdaa
open Go.Shelf
def lays189_ren : Go.Shelf.Ren := ⟨fun | 189 => 76 | 125 => 103 | 257 => 102 | 128 => 123 | 129 => 124 | 294 => 114 | 295 => 115 | 296 => 116 | 297 => 117 | 298 => 118 | 299 => 119 | 216 => 120 | 300 => 121 | 301 => 122 | 328 => 127 | 329 => 128 | 330 => 129 | 331 => 130 | 332 => 131 | 215 => 132 | 343 => 133 | n => n, fun | 28 => 47 | 3 => 3 | 46 => 172 | 0 => 0 | 51 => 79 | 53 => 118 | 4 => 4 | 183 => 183 | 182 => 182 | 131 => 44 | 5 => 5 | 9 => 9 | 218 => 192 | 222 => 196 | 228 => 198 | 229 => 199 | n => n, fun | n => n⟩
theorem lays189 : Go.Proofs.Lays.n189 Try.prog lays189_ren := {
  mixed := by kernel_rfl
  f125 := Try.func103.trans (congrArg some (by kernel_rfl))
  f128 := Try.func123.trans (congrArg some (by kernel_rfl))
  f129 := Try.func124.trans (congrArg some (by kernel_rfl))
  f189 := Try.func76.trans (congrArg some (by kernel_rfl))
  f215 := Try.func132.trans (congrArg some (by kernel_rfl))
  f216 := Try.func120.trans (congrArg some (by kernel_rfl))
  f257 := Try.func102.trans (congrArg some (by kernel_rfl))
  f294 := Try.func114.trans (congrArg some (by kernel_rfl))
  f295 := Try.func115.trans (congrArg some (by kernel_rfl))
  f296 := Try.func116.trans (congrArg some (by kernel_rfl))
  f297 := Try.func117.trans (congrArg some (by kernel_rfl))
  f298 := Try.func118.trans (congrArg some (by kernel_rfl))
  f299 := Try.func119.trans (congrArg some (by kernel_rfl))
  f300 := Try.func121.trans (congrArg some (by kernel_rfl))
  f301 := Try.func122.trans (congrArg some (by kernel_rfl))
  f328 := Try.func127.trans (congrArg some (by kernel_rfl))
  f329 := Try.func128.trans (congrArg some (by kernel_rfl))
  f330 := Try.func129.trans (congrArg some (by kernel_rfl))
  f331 := Try.func130.trans (congrArg some (by kernel_rfl))
  f332 := Try.func131.trans (congrArg some (by kernel_rfl))
  f343 := Try.func133.trans (congrArg some (by kernel_rfl))
  t0 := Try.underlying0
  a0 := Try.isAgg0
  z0 := Try.sizeOf0
  v0 := Try.zeroValue0
  t3 := Try.underlying3
  a3 := Try.isAgg3
  z3 := Try.sizeOf3
  v3 := Try.zeroValue3
  t4 := Try.underlying4
  a4 := Try.isAgg4
  z4 := Try.sizeOf4
  v4 := Try.zeroValue4
  t5 := Try.underlying5
  a5 := Try.isAgg5
  z5 := Try.sizeOf5
  v5 := Try.zeroValue5
  t9 := Try.underlying9
  a9 := Try.isAgg9
  z9 := Try.sizeOf9
  v9 := Try.zeroValue9
  t28 := Try.underlying47
  a28 := Try.isAgg47
  z28 := Try.sizeOf47
  v28 := Try.zeroValue47
  t46 := Try.underlying172
  a46 := Try.isAgg172
  z46 := Try.sizeOf172
  v46 := Try.zeroValue172
  t51 := Try.underlying79
  a51 := Try.isAgg79
  z51 := Try.sizeOf79
  v51 := Try.zeroValue79
  t53 := Try.underlying118
  a53 := Try.isAgg118
  z53 := Try.sizeOf118
  v53 := Try.zeroValue118
  t131 := Try.underlying44
  a131 := Try.isAgg44
  z131 := Try.sizeOf44
  v131 := Try.zeroValue44
  t182 := Try.underlying182
  a182 := Try.isAgg182
  z182 := Try.sizeOf182
  v182 := Try.zeroValue182
  t183 := Try.underlying183
  a183 := Try.isAgg183
  z183 := Try.sizeOf183
  v183 := Try.zeroValue183
  t218 := Try.underlying192
  a218 := Try.isAgg192
  z218 := Try.sizeOf192
  v218 := Try.zeroValue192
  t222 := Try.underlying196
  a222 := Try.isAgg196
  z222 := Try.sizeOf196
  v222 := Try.zeroValue196
  t228 := Try.underlying198
  a228 := Try.isAgg198
  z228 := Try.sizeOf198
  v228 := Try.zeroValue198
  t229 := Try.underlying199
  a229 := Try.isAgg199
  z229 := Try.sizeOf199
  v229 := Try.zeroValue199 }

open Go.RowKit
def srt (l : List Int) : List Int := l.mergeSort fun x y => decide (x ≤ y)
theorem srt_len (l : List Int) : (srt l).length = l.length := by unfold srt; simp
theorem srt_perm {a b : List Int} (h : a.Perm b) : srt a = srt b := by
  unfold srt
  have ht : ∀ a b c : Int, decide (a ≤ b) = true → decide (b ≤ c) = true → decide (a ≤ c) = true := fun a b c h1 h2 => by simp at *; omega
  have hs : ∀ a b : Int, (decide (a ≤ b) || decide (b ≤ a)) = true := fun a b => by simp; omega
  refine List.Perm.eq_of_pairwise (le := fun x y : Int => decide (x ≤ y) = true) ?_ (List.pairwise_mergeSort ht hs a) (List.pairwise_mergeSort ht hs b) (((List.mergeSort_perm a _).trans h).trans (List.mergeSort_perm b _).symm)
  intro x y _ _ h1 h2
  simp at h1 h2
  omega
theorem srt_of_sorted {l : List Int} (h : l.Pairwise (· ≤ ·)) : srt l = l := List.mergeSort_of_pairwise (by simpa using h)
theorem srt_pair (l : List Int) : (srt l).Pairwise (· ≤ ·) := by
  have ht : ∀ a b c : Int, decide (a ≤ b) = true → decide (b ≤ c) = true → decide (a ≤ c) = true := fun a b c h1 h2 => by simp at *; omega
  have hs : ∀ a b : Int, (decide (a ≤ b) || decide (b ≤ a)) = true := fun a b => by simp; omega
  have := List.pairwise_mergeSort ht hs l
  unfold srt
  simpa using this
theorem srt_mem {l : List Int} {x : Int} : x ∈ srt l ↔ x ∈ l := (List.mergeSort_perm l _).mem_iff
theorem own_ge {w : World} {base e size n : Nat} {v : Value} {xs : List Value} (h : w.ownsRow base e size v n xs) {q : Nat} (hq : v.ownBlock = some q) : base ≤ q := by
  rcases h.2 with ⟨rfl, _⟩ | ⟨b, cap, cur, rfl, hb, _⟩
  · cases hq
  · cases hq; exact hb
theorem own_off {S : Nat → Prop} {w w' : World} {base e size n : Nat} {v : Value} {xs : List Value} (h : w.ownsRow base e size v n xs) (m : Away S w w') (hs : ∀ k, S k → k < base) : w'.ownsRow base e size v n xs := by
  obtain ⟨h1, h2⟩ := h
  refine ⟨h1, ?_⟩
  rcases h2 with h | ⟨g, cap, cur, e1, hb, hg, rest⟩
  · exact Or.inl h
  · exact Or.inr ⟨g, cap, cur, e1, hb, m.blk hg (fun x => by have := hs g x; omega), rest⟩
theorem Away.of_grown {w w' : World} {row : Option Nat} (g : w.grownBy w' row) : Away (fun x => row = some x) w w' := ⟨g.os, g.tape, g.output, g.size, fun k hk hs => g.block k hk (fun e => hs e.symm)⟩
/-- slices.Sort at a row of the call's own. -/
theorem SortI {w : World} {base : Nat} {v : Value} {l : List Int} (h : w.ownsRow base 3 1 v l.length (l.map (Value.int .i64))) (hl : l.length < 4611686018427387904) :
    Calls Try.prog 76 #[v] w fun e w' => e = .returned (.tuple #[]) ∧ w'.ownsRow base 3 1 v (srt l).length ((srt l).map (Value.int .i64)) ∧ w.grownBy w' v.ownBlock := by
  obtain ⟨h0, h⟩ := h
  rcases h with ⟨rfl, hn⟩ | ⟨b, cap, cur, rfl, hb, hg, hc, hcap, hs, ht⟩
  · have e0 : l = [] := by simpa using hn
    subst e0
    refine (Any.slices_Sort_int_none lays189 none 0 w).mono fun e w' ⟨h1, h2⟩ => ?_
    subst h2
    exact ⟨h1, ⟨by simp [srt], Or.inl ⟨rfl, by simp [srt]⟩⟩, ⟨rfl, rfl, rfl, Nat.le_refl _, fun _ _ _ => rfl⟩⟩
  · have ht' : cur.toList.take l.length = l.map (Value.int .i64) := by simpa using ht
    refine (Any.slices_Sort_int lays189 b 0 cap l w (holds_of_blockI hg ht') (lt_of_block hg) hl).mono fun e w' ⟨h1, n, os, h2⟩ => ?_
    subst h2
    refine ⟨h1, ?_, grownBy_sortedI _⟩
    have := ownsRow_sortedI (w := w) (n := n) (os := os) (ss := l) (ts := srt l) (srt_len l) hb hg hc hcap hs
    rw [srt_len]
    exact this
end Go.Proofs.Ytmhkjamibcdcdaa
