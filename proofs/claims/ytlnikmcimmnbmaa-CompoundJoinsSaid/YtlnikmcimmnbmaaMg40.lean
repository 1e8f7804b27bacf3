/- Merged from my texts CompK, CompL. -/
import Derived.Test.YtlnikmcimmnbmaaMg39
import Derived.Deep.Cut
import Derived.Deep.CutRange
import Derived.Deep.CutBlock
import Derived.Outline
/- The laws of compound: awake. -/
namespace Go.Proofs.Ytlnikmcimmnbmaa
set_option linter.unusedSimpArgs false
set_option linter.unusedVariables false
open Go.RowKit Go.Lib
set_option maxRecDepth 100000

/-- A struct out of the middle of a block, under a guard. -/
theorem wpList_load_midG {P : Program} {ops : Array Oper} {rest : List Oper} {op : Oper} {a : Act} {w : World} {Q : Exit → Act → World → Prop} (hw : Region.wanted op (yielded ops a.tmps) = true) (ty : TypeId) (x : Operand) (ho : op.op = .load ty x)
    (b o : Nat) (hx : a.eval x = .pointer (some ⟨b, o, none⟩)) (cs : List Value) (d : TypeDesc) (hc : w.rangeAt b o cs)
    (hu : P.underlying ty = some d) (hd : d.isRow = true) (hi : (P.info? ty).map (·.size) = some cs.length)
    (h : wpList P ops Q rest (a.put op.dst (.agg cs.toArray)) w) : wpList P ops Q (op :: rest) a w :=
  wpList_step fun K hK => by
    rw [if_pos hw]
    exact wp_load_mid ty x ho b o hx cs d hc hu hd hi (hK _ _ h)
theorem flat_get {n : Nat} : ∀ (css : List (List Value)) (i j : Nat), (∀ c ∈ css, c.length = n) → i < css.length → j < n → css.flatten[i * n + j]? = (css.getD i [])[j]?
  | [], _, _, _, h, _ => absurd h (by simp)
  | c :: css, 0, j, hl, _, hj => by
    have := hl c (by simp)
    rw [List.flatten_cons, Nat.zero_mul, Nat.zero_add, List.getElem?_append_left (by omega)]
    rfl
  | c :: css, i + 1, j, hl, hi, hj => by
    have h1 := hl c (by simp)
    rw [List.flatten_cons, List.getElem?_append_right (by rw [h1, Nat.add_mul]; omega), h1, show (i + 1) * n + j - n = i * n + j by rw [Nat.add_mul]; omega]
    exact flat_get css i j (fun d hd => hl d (by simp [hd])) (by simpa using hi) hj
theorem SlP.lits {α : Type} {n : Nat} {R : Reader α} {w : World} {cs : Array Value} {t : TypeId} {B m : Nat} {L : List α} (css : List (List Value)) (hn : 0 < n) (hm : m = L.length) (hB : w.heap[B]? = some (.cells cs t (0, 0))) (hcs : cs.toList = css.flatten) (hl : ∀ c ∈ css, c.length = n) (hL : css.length = L.length) (hs : L.length ≤ 1000)
    (h : ∀ i (hi : i < L.length), R w (css.getD i []) L[i]) : SlP n R w (.slice (some ⟨B, 0, none⟩) m m) L := by
  subst hm
  refine ⟨_, L.length, rfl, by omega, fun i hi => ⟨B, 0, css.getD i [], rfl, lt_of_block hB, ?_, fun j hj => ?_, h i hi⟩, Nat.le_refl _, by unfold maxLen; omega, fun e => by cases e⟩
  · have hi2 : i < css.length := by omega
    rw [List.getD_eq_getElem?_getD, List.getElem?_eq_getElem hi2]
    exact hl _ (List.getElem_mem hi2)
  · rw [Nat.zero_add, cell_of_row w B _ cs t (0, 0) hB, ← Array.getElem?_toList, hcs, flat_get css i j hl (by omega) hj]
def aI0 : Itm := ⟨1, ⟨false, 5, ⟨0, 0, 0, 0, 0⟩, []⟩, ⟨0, 0, 0, [], []⟩, (0, 0, [], ())⟩
def aI1 : Itm := ⟨2, ⟨false, 0, ⟨0, 0, 0, 0, 0⟩, []⟩, ⟨1, 0, 7, [], []⟩, (0, 0, [], ())⟩
def aI2 : Itm := ⟨2, ⟨false, 0, ⟨0, 0, 0, 0, 0⟩, []⟩, ⟨2, 0, 0, [(8, 0), (9, 0)], []⟩, (0, 0, [], ())⟩
def aI3 : Itm := ⟨2, ⟨false, 0, ⟨0, 0, 0, 0, 0⟩, []⟩, ⟨3, 0, 7, [], [1, 2]⟩, (0, 0, [], ())⟩
def aI4 : Itm := ⟨3, ⟨false, 0, ⟨0, 0, 0, 0, 0⟩, []⟩, ⟨0, 0, 0, [], []⟩, (0, 203, [], ())⟩
def aL : List Itm := [aI0, aI1, aI2, aI3, aI4]
def aB : List Int := [128, 201, 0, 1, 0, 0, 0, 5, 129, 206, 0, 2, 0, 0, 0, 0, 0, 0, 0, 7, 132, 206, 0, 6, 0, 0, 0, 0, 0, 0, 0, 0, 0, 0, 0, 8, 0, 0, 0, 0, 0, 0, 0, 9, 0, 0, 0, 0, 129, 205, 0, 3, 0, 0, 0, 0, 0, 0, 0, 7, 0, 1, 0, 1, 128, 203, 0, 0]
theorem aW : writeI aL = (aB, 0) := by decide +kernel
theorem aR : readI aB = (aL, 0) := by decide +kernel
theorem aR0 : readI [] = ([], 3) := by decide +kernel
theorem aAs : askedI aL = [7, 8, 9] := by decide +kernel
theorem aLo : lostI aL 7 = 2 := by decide +kernel
theorem aRi : rightI aI0 = true := by decide +kernel
theorem aRz : rightI itm0 = false := by decide +kernel
theorem aN : ∀ x ∈ aL, ItmN x := by
  intro x hx
  simp only [aL, List.mem_cons, List.not_mem_nil, or_false] at hx
  rcases hx with rfl | rfl | rfl | rfl | rfl <;> exact ⟨by decide, by decide, by decide, by decide⟩
theorem aOK : ∀ x ∈ aL, ItmOK x := by
  intro x hx
  simp only [aL, List.mem_cons, List.not_mem_nil, or_false] at hx
  have r0 : InfOK ⟨0, 0, 0, 0, 0⟩ := by constructor <;> decide
  have c0 : ∀ k, 0 ≤ k ∧ k ≤ 255 → ChunkOK (0, k, [], ()) := fun k hk => ⟨by show (0 : Int) ≤ 0 ∧ (0 : Int) ≤ 255; decide, hk, Byt.of_all (l := []) rfl⟩
  rcases hx with rfl | rfl | rfl | rfl | rfl
  · exact ⟨⟨by decide, r0, (fun b h => by cases h)⟩, ⟨by decide, by decide, (fun a h => by cases h), (fun a h => by cases h)⟩, c0 0 (by decide)⟩
  · exact ⟨⟨by decide, r0, (fun b h => by cases h)⟩, ⟨by decide, by decide, (fun a h => by cases h), (fun a h => by cases h)⟩, c0 0 (by decide)⟩
  · exact ⟨⟨by decide, r0, (fun b h => by cases h)⟩, ⟨by decide, by decide, by decide, (fun a h => by cases h)⟩, c0 0 (by decide)⟩
  · exact ⟨⟨by decide, r0, (fun b h => by cases h)⟩, ⟨by decide, by decide, (fun a h => by cases h), by decide⟩, c0 0 (by decide)⟩
  · exact ⟨⟨by decide, r0, (fun b h => by cases h)⟩, ⟨by decide, by decide, (fun a h => by cases h), (fun a h => by cases h)⟩, c0 203 (by decide)⟩
set_option maxHeartbeats 8000000 in
theorem awake10 (w : World) :
    Calls Try.prog 60 #[] w fun e w' => e = .returned (.bool true) ∧ More w w' := by
  go_enter Try.func60, Try.ntmps60
  go_upto_region 2 with (fail)
  obtain ⟨W1, hW1⟩ : ∃ W1, ((w.alloc (.cells #[.int .u32 8, .int .u8 0, .int .u32 9, .int .u8 0] 177)).alloc (.cells #[.int .u16 1, .int .u16 2] 52)).alloc (.cells #[.int .i64 1, .bool false, .int .u32 5, .int .u32 0, .int .u32 0, .int .u32 0, .int .u32 0, .int .u32 0, .slice none 0 0, .int .i64 0, .int .u32 0, .int .u32 0, .slice none 0 0, .slice none 0 0, .int .u8 0, .int .u8 0, .slice none 0 0, .int .i64 2, .bool false, .int .u32 0, .int .u32 0, .int .u32 0, .int .u32 0, .int .u32 0, .int .u32 0, .slice none 0 0, .int .i64 1, .int .u32 0, .int .u32 7, .slice none 0 0, .slice none 0 0, .int .u8 0, .int .u8 0, .slice none 0 0, .int .i64 2, .bool false, .int .u32 0, .int .u32 0, .int .u32 0, .int .u32 0, .int .u32 0, .int .u32 0, .slice none 0 0, .int .i64 2, .int .u32 0, .int .u32 0, .slice (some ⟨w.heap.size, 0, none⟩) 2 2, .slice none 0 0, .int .u8 0, .int .u8 0, .slice none 0 0, .int .i64 2, .bool false, .int .u32 0, .int .u32 0, .int .u32 0, .int .u32 0, .int .u32 0, .int .u32 0, .slice none 0 0, .int .i64 3, .int .u32 0, .int .u32 7, .slice none 0 0, .slice (some ⟨w.heap.size + 1, 0, none⟩) 2 2, .int .u8 0, .int .u8 0, .slice none 0 0, .int .i64 3, .bool false, .int .u32 0, .int .u32 0, .int .u32 0, .int .u32 0, .int .u32 0, .int .u32 0, .slice none 0 0, .int .i64 0, .int .u32 0, .int .u32 0, .slice none 0 0, .slice none 0 0, .int .u8 0, .int .u8 203, .slice none 0 0] 122) = W1 := ⟨_, rfl⟩
  have M1 : Hid (More w W1) := Lib.hid (by rw [← hW1]; exact ((More.alloc _ _).al _).al _)
  have BA : Hid (W1.heap[w.heap.size]? = some (.cells #[.int .u32 8, .int .u8 0, .int .u32 9, .int .u8 0] 177 (0, 0))) := Lib.hid (by rw [← hW1]; exact blk_alloc (blk_alloc (blk_new w _) _) _)
  have BL : Hid (W1.heap[w.heap.size + 1]? = some (.cells #[.int .u16 1, .int .u16 2] 52 (0, 0))) := Lib.hid (by rw [← hW1]; exact blk_alloc (blk_new2 (by simp)) _)
  have BC : Hid (W1.heap[w.heap.size + 1 + 1]? = some (.cells #[.int .i64 1, .bool false, .int .u32 5, .int .u32 0, .int .u32 0, .int .u32 0, .int .u32 0, .int .u32 0, .slice none 0 0, .int .i64 0, .int .u32 0, .int .u32 0, .slice none 0 0, .slice none 0 0, .int .u8 0, .int .u8 0, .slice none 0 0, .int .i64 2, .bool false, .int .u32 0, .int .u32 0, .int .u32 0, .int .u32 0, .int .u32 0, .int .u32 0, .slice none 0 0, .int .i64 1, .int .u32 0, .int .u32 7, .slice none 0 0, .slice none 0 0, .int .u8 0, .int .u8 0, .slice none 0 0, .int .i64 2, .bool false, .int .u32 0, .int .u32 0, .int .u32 0, .int .u32 0, .int .u32 0, .int .u32 0, .slice none 0 0, .int .i64 2, .int .u32 0, .int .u32 0, .slice (some ⟨w.heap.size, 0, none⟩) 2 2, .slice none 0 0, .int .u8 0, .int .u8 0, .slice none 0 0, .int .i64 2, .bool false, .int .u32 0, .int .u32 0, .int .u32 0, .int .u32 0, .int .u32 0, .int .u32 0, .slice none 0 0, .int .i64 3, .int .u32 0, .int .u32 7, .slice none 0 0, .slice (some ⟨w.heap.size + 1, 0, none⟩) 2 2, .int .u8 0, .int .u8 0, .slice none 0 0, .int .i64 3, .bool false, .int .u32 0, .int .u32 0, .int .u32 0, .int .u32 0, .int .u32 0, .int .u32 0, .slice none 0 0, .int .i64 0, .int .u32 0, .int .u32 0, .slice none 0 0, .slice none 0 0, .int .u8 0, .int .u8 203, .slice none 0 0] 122 (0, 0))) := Lib.hid (by rw [← hW1]; exact blk_new2 (by simp))
  rw [hW1]
  clear hW1
  have SA : Hid (SlP 2 RAsk W1 (.slice (some ⟨w.heap.size, 0, none⟩) 2 2) [(8, 0), (9, 0)]) := Lib.hid (SlP.lits [[.int .u32 8, .int .u8 0], [.int .u32 9, .int .u8 0]] (by decide) rfl BA.out rfl (by simp) rfl (by simp) (by
    intro i hi
    have : i = 0 ∨ i = 1 := by simp at hi; omega
    rcases this with rfl | rfl
    · exact ⟨rfl, (show U32 8 by decide), (show U8 0 by decide)⟩
    · exact ⟨rfl, (show U32 9 by decide), (show U8 0 by decide)⟩))
  have SL : Hid (SlI .u16 W1 (.slice (some ⟨w.heap.size + 1, 0, none⟩) 2 2) [1, 2]) := Lib.hid ⟨_, 2, rfl, by simp, fun i hi => ⟨w.heap.size + 1, 0, rfl, blk_lt BL.out, by
    have : i = 0 ∨ i = 1 := by simp at hi; omega
    rcases this with rfl | rfl
    · exact blk_cell BL.out 0 rfl
    · exact blk_cell BL.out 1 rfl⟩, by simp, by unfold maxLen; decide, fun h => by cases h⟩
  have SS : Hid (SlP 17 RItm W1 (.slice (some ⟨w.heap.size + 1 + 1, 0, none⟩) 5 5) aL) := Lib.hid (SlP.lits [[.int .i64 1, .bool false, .int .u32 5, .int .u32 0, .int .u32 0, .int .u32 0, .int .u32 0, .int .u32 0, .slice none 0 0, .int .i64 0, .int .u32 0, .int .u32 0, .slice none 0 0, .slice none 0 0, .int .u8 0, .int .u8 0, .slice none 0 0], [.int .i64 2, .bool false, .int .u32 0, .int .u32 0, .int .u32 0, .int .u32 0, .int .u32 0, .int .u32 0, .slice none 0 0, .int .i64 1, .int .u32 0, .int .u32 7, .slice none 0 0, .slice none 0 0, .int .u8 0, .int .u8 0, .slice none 0 0], [.int .i64 2, .bool false, .int .u32 0, .int .u32 0, .int .u32 0, .int .u32 0, .int .u32 0, .int .u32 0, .slice none 0 0, .int .i64 2, .int .u32 0, .int .u32 0, .slice (some ⟨w.heap.size, 0, none⟩) 2 2, .slice none 0 0, .int .u8 0, .int .u8 0, .slice none 0 0], [.int .i64 2, .bool false, .int .u32 0, .int .u32 0, .int .u32 0, .int .u32 0, .int .u32 0, .int .u32 0, .slice none 0 0, .int .i64 3, .int .u32 0, .int .u32 7, .slice none 0 0, .slice (some ⟨w.heap.size + 1, 0, none⟩) 2 2, .int .u8 0, .int .u8 0, .slice none 0 0], [.int .i64 3, .bool false, .int .u32 0, .int .u32 0, .int .u32 0, .int .u32 0, .int .u32 0, .int .u32 0, .slice none 0 0, .int .i64 0, .int .u32 0, .int .u32 0, .slice none 0 0, .slice none 0 0, .int .u8 0, .int .u8 203, .slice none 0 0]] (by decide) rfl BC.out rfl (by simp) rfl (by decide) (by
    intro i hi
    have : i = 0 ∨ i = 1 ∨ i = 2 ∨ i = 3 ∨ i = 4 := by simp [aL] at hi; omega
    rcases this with rfl | rfl | rfl | rfl | rfl
    · exact ⟨_, _, _, _, rfl, ⟨SlP.nil _ _ _, ⟨SlP.nil _ _ _, SlI.nil _ _⟩, SlI.nil _ _⟩, aOK _ (by simp [aL])⟩
    · exact ⟨_, _, _, _, rfl, ⟨SlP.nil _ _ _, ⟨SlP.nil _ _ _, SlI.nil _ _⟩, SlI.nil _ _⟩, aOK _ (by simp [aL])⟩
    · exact ⟨_, _, _, _, rfl, ⟨SlP.nil _ _ _, ⟨SA.out, SlI.nil _ _⟩, SlI.nil _ _⟩, aOK _ (by simp [aL])⟩
    · exact ⟨_, _, _, _, rfl, ⟨SlP.nil _ _ _, ⟨SlP.nil _ _ _, SL.out⟩, SlI.nil _ _⟩, aOK _ (by simp [aL])⟩
    · exact ⟨_, _, _, _, rfl, ⟨SlP.nil _ _ _, ⟨SlP.nil _ _ _, SlI.nil _ _⟩, SlI.nil _ _⟩, aOK _ (by simp [aL])⟩))
  have hB0 : w.heap.size + 1 + 1 < W1.heap.size := blk_lt BC.out
  obtain ⟨BX, hBX⟩ : ∃ BX, w.heap.size + 1 + 1 = BX := ⟨_, rfl⟩
  rw [hBX] at SS BC hB0 ⊢
  clear hBX SA SL BA BL
  have hrg : Hid (W1.rangeAt BX 0 [.int .i64 1, .bool false, .int .u32 5, .int .u32 0, .int .u32 0, .int .u32 0, .int .u32 0, .int .u32 0, .slice none 0 0, .int .i64 0, .int .u32 0, .int .u32 0, .slice none 0 0, .slice none 0 0, .int .u8 0, .int .u8 0, .slice none 0 0]) := Lib.hid (fun j v hv => by
    rw [Nat.zero_add, cell_of_row W1 BX j _ _ (0, 0) BC.out, ← Array.getElem?_toList]
    have hj : j < 17 := (List.getElem?_eq_some_iff.1 hv).1
    rw [← hv]
    have : j = 0 ∨ j = 1 ∨ j = 2 ∨ j = 3 ∨ j = 4 ∨ j = 5 ∨ j = 6 ∨ j = 7 ∨ j = 8 ∨ j = 9 ∨ j = 10 ∨ j = 11 ∨ j = 12 ∨ j = 13 ∨ j = 14 ∨ j = 15 ∨ j = 16 := by omega
    rcases this with rfl | rfl | rfl | rfl | rfl | rfl | rfl | rfl | rfl | rfl | rfl | rfl | rfl | rfl | rfl | rfl | rfl <;> rfl)
  clear BC
  have HX0 : ∀ W, Hid (Calls Try.prog 63 #[.agg #[.int .i64 1, .bool false, .int .u32 5, .int .u32 0, .int .u32 0, .int .u32 0, .int .u32 0, .int .u32 0, .slice none 0 0, .int .i64 0, .int .u32 0, .int .u32 0, .slice none 0 0, .slice none 0 0, .int .u8 0, .int .u8 0, .slice none 0 0]] W fun e w' => e = .returned (.bool true) ∧ More W w') := fun W => Lib.hid (by
    have := RightI_any aI0 none none none none 0 0 0 0 W ⟨SlP.nil _ _ _, ⟨SlP.nil _ _ _, SlI.nil _ _⟩, SlI.nil _ _⟩ (aOK _ (by simp [aL])) (aN _ (by simp [aL]))
    rw [aRi] at this
    exact this)
  have HXZ : ∀ W, Hid (Calls Try.prog 63 #[.agg #[.int .i64 0, .bool false, .int .u32 0, .int .u32 0, .int .u32 0, .int .u32 0, .int .u32 0, .int .u32 0, .slice none 0 0, .int .i64 0, .int .u32 0, .int .u32 0, .slice none 0 0, .slice none 0 0, .int .u8 0, .int .u8 0, .slice none 0 0]] W fun e w' => e = .returned (.bool false) ∧ More W w') := fun W => Lib.hid (by
    have := RightI_any itm0 none none none none 0 0 0 0 W ⟨SlP.nil _ _ _, ⟨SlP.nil _ _ _, SlI.nil _ _⟩, SlI.nil _ _⟩ ⟨rep0_ok, msg0_ok, oth0_ok⟩ ⟨by decide, by decide, by decide, by decide⟩
    rw [aRz] at this
    exact this)
  go_wp2_with (first | (go_at_call 64; ((with_reducible refine (WriteI_any aL _ W1 SS.out (by decide) aN).mono ?_); rintro e w2 ⟨v2, rfl, s2, m2⟩; rw [aW] at s2 ⊢; obtain ⟨o2, c2, rfl, _⟩ := id s2; rw [show aB.length = 68 from rfl] at s2 ⊢; have S2 := Lib.hid s2; have M2 := Lib.hid m2; clear m2)) | (go_at_call 62; ((with_reducible refine (ReadI_any aB _ w2 S2.out (Byt.of_all (by decide)) (by decide)).mono ?_); rintro e w3 ⟨v3, rfl, s3, m3⟩; rw [aR] at s3 ⊢; have S3 := Lib.hid s3; have M3 := Lib.hid (M2.out.trans m3); clear m3 s3)) | (go_at_call 62; ((with_reducible refine (ReadI_any [] _ w3 (SlI.nil _ _) (Byt.of_all (by decide)) (by decide)).mono ?_); rintro e w4 ⟨v4, rfl, s4, m4⟩; rw [aR0]; have M4 := Lib.hid (M3.out.trans m4); have S4 := Lib.hid (S3.out.keep keepsItm m4); clear m4 s4)) | (go_at_call 66; ((with_reducible refine (own10 aL v3 w4 S4.out (by decide) aN).mono ?_); rintro e w5 ⟨v5, rfl, s5, m5⟩; have S5 := Lib.hid s5; have M5 := Lib.hid (M4.out.trans m5); clear m5 s5)) | (go_at_call 66; ((with_reducible refine (own10 aL _ w5 (SS.out.keep keepsItm M5.out) (by decide) aN).mono ?_); rintro e w6 ⟨v6, rfl, s6, m6⟩; have S6 := Lib.hid s6; have S5b := Lib.hid (S5.out.keep keepsItm m6); have M6 := Lib.hid (M5.out.trans m6); clear m6 s6)) | (go_at_call 65; ((with_reducible refine (Same10_any aL aL v5 v6 w6 S5b.out S6.out).mono ?_); rintro e w7 ⟨rfl, m7⟩; rw [decide_eq_true rfl]; have M7 := Lib.hid (M6.out.trans m7); clear m7)) | (go_at_call 68; ((with_reducible refine (Asked_any aL _ w7 (SS.out.keep keepsItm M7.out) (by decide) aN).mono ?_); rintro e w8 ⟨v8, rfl, s8, m8⟩; rw [aAs] at s8; have S8 := Lib.hid s8; have M8 := Lib.hid (M7.out.trans m8); clear m8 s8)) | (go_at_call 67; ((with_reducible refine (Nums_any [7, 8, 9] [7, 8, 9] v8 _ _ (S8.out.keep (More.alloc _ _)) (SlI.lit .u32 w8 [7, 8, 9] 22 #[.int .u32 7, .int .u32 8, .int .u32 9] 3 _ rfl rfl rfl (by simp))).mono ?_); rintro e w9 ⟨rfl, k9, e9⟩; rw [decide_eq_true rfl]; have M9 : Hid (More W1 w9) := Lib.hid (by rw [e9]; exact (M8.out.al _).dr _); clear e9)) | (go_at_call 69; ((with_reducible refine (Lost_any aL 7 _ w9 (SS.out.keep keepsItm M9.out) (by decide) aN).mono ?_); rintro e w10 ⟨rfl, m10⟩; rw [aLo]; have M10 := Lib.hid (M9.out.trans m10); have hrg2 := Lib.hid (RangeAt.more hrg.out M10.out hB0); clear m10)) | (refine wpList_load_midG rfl 122 (.tmp 72) rfl BX 0 rfl [.int .i64 1, .bool false, .int .u32 5, .int .u32 0, .int .u32 0, .int .u32 0, .int .u32 0, .int .u32 0, .slice none 0 0, .int .i64 0, .int .u32 0, .int .u32 0, .slice none 0 0, .slice none 0 0, .int .u8 0, .int .u8 0, .slice none 0 0] _ hrg2.out Try.underlying122 rfl (by kernel_rfl) ?_) | (go_at_call 63; ((with_reducible refine ((HX0 w10).out).mono ?_); rintro e w11 ⟨rfl, m11⟩; have M11 := Lib.hid (M10.out.trans m11); clear m11)) | (go_at_call 63; ((with_reducible refine ((HXZ w11).out).mono ?_); rintro e w12 ⟨rfl, m12⟩; have M12 := Lib.hid (M11.out.trans m12); clear m12)))
  go_ret
  exact ⟨rfl, M1.out.trans M12.out⟩
end Go.Proofs.Ytlnikmcimmnbmaa
/- Items of a datagram: there and back, plain. -/
namespace Go.Proofs.Ytlnikmcimmnbmaa
set_option linter.unusedSimpArgs false
set_option linter.unusedVariables false
open Go.RowKit
set_option maxRecDepth 100000

theorem formC_byt {s : RdS} (h : Byt s.1) (f : Int) : Byt (formC f s).1 := by
  unfold formC
  split
  · exact wrS_byt h _
  · exact h
theorem headC_byt {s : RdS} (h : Byt s.1) : Byt (headC s).2.1 := tkS_byt (tkS_byt (tkS_byt h 1) 1) 2
theorem readC_okP {s : RdS} (h : Byt s.1) : ChunkOK (readC s).1 := by
  have h0 := headC_byt h
  have hf := formC_byt h0 (headC s).1.1
  have hb := num_u8 (s := tkS s 1) (tkS_byt h 1)
  have ht : 0 ≤ (headC s).1.2.1 ∧ (headC s).1.2.1 ≤ 255 := hb
  unfold readC
  generalize formC (headC s).1.1 (headC s).2 = q at *
  generalize (headC s).1.1 = f at *
  generalize (headC s).1.2.1 = t at *
  generalize (headC s).1.2.2 = n at *
  have hk := tkB_byt hf (4 * n)
  unfold bodyC
  split
  · exact ⟨by show 0 ≤ f % 32 ∧ f % 32 ≤ 255; omega, ht, hk⟩
  · exact ⟨by show 0 ≤ f % 32 ∧ f % 32 ≤ 255; omega, ht, unpadC_byt hk⟩
theorem splitF_okP : ∀ (n : Nat) (acc : List Chunk) (s : RdS), Byt s.1 → (∀ c ∈ acc, ChunkOK c) → ∀ c ∈ (splitF n acc s).1, ChunkOK c
  | 0, acc, s, _, h => h
  | n + 1, acc, s, hb, h => by
    have h2 : ∀ c ∈ acc ++ [(readC s).1], ChunkOK c := fun c hc => by
      rcases List.mem_append.1 hc with hc | hc
      · exact h c hc
      · rw [List.mem_singleton] at hc; rw [hc]; exact readC_okP hb
    unfold splitF
    split
    · exact h2
    · exact splitF_okP n _ _ (readC_byt hb) h2
theorem splitC_ok {b : List Int} (hb : Byt b) : ∀ c ∈ (splitC b).1, ChunkOK c := by
  have key := fun n => splitF_okP n [] (b, 0) hb (fun c hc => by cases hc)
  unfold splitC
  split
  · intro c hc; cases hc
  · split
    · exact key _
    · intro c hc; cases hc
theorem map_fst_mem {α β : Type} {f : α → β} {l : List α} {y : β} (h : y ∈ l.map f) : ∃ x ∈ l, f x = y := List.mem_map.1 h
/-- What is read may be. -/
theorem readI_right {b : List Int} (hb : Byt b) (h : (readI b).2 = 0) : ∀ x ∈ (readI b).1, rightI x = true ∧ ItmOK x ∧ ItmN x := by
  unfold readI at h ⊢
  split at h
  · rename_i h0
    rw [if_pos h0]
    split at h
    · rename_i h1
      rw [if_pos h1]
      intro x hx
      obtain ⟨c, hc, rfl⟩ := List.mem_map.1 hx
      have e : splitC b = ((splitC b).1, 0) := by rw [← h0]
      obtain ⟨q1, _, _, q4⟩ := splitC_back hb e
      have hr := (joinC_ok q1).2.1 c hc
      have hk := splitC_ok hb c hc
      have he := firstE_zero.1 h1 _ (List.mem_map.2 ⟨c, hc, rfl⟩)
      obtain ⟨r1, r2⟩ := itemC_right hk hr he
      refine ⟨r1, r2, itemC_small hk ?_⟩
      have := ((rightB_iff c).1 hr).2.2
      omega
    · rename_i h1
      exact absurd h h1
  · rename_i h0
    exact absurd h h0
theorem readI_err {b : List Int} (h : ¬ (readI b).2 = 0) : (readI b).1 = [] := by
  unfold readI at h ⊢
  split at h
  · rename_i h0
    rw [if_pos h0]
    split at h
    · exact absurd rfl h
    · rename_i h1
      rw [if_neg h1]
  · rename_i h0
    rw [if_neg h0]
theorem writeI_err {l : List Itm} (h : ¬ (writeI l).2 = 0) : (writeI l).1 = [] := by
  unfold writeI at h ⊢
  split at h
  · rename_i h0
    rw [if_pos h0]
    exact joinC_err h
  · rename_i h0
    rw [if_neg h0]
theorem writeI_nil : writeI [] = ([], 0) := by decide
/-- Items that are written. -/
theorem writeI_ok {l : List Itm} {x : List Int} (h : writeI l = (x, 0)) : (∀ y ∈ l, rightI y = true) ∧ joinC (l.map fun x => (chunkI x).1) = (x, 0) := by
  unfold writeI at h
  split at h
  · rename_i h0
    refine ⟨fun y hy => ?_, h⟩
    have := firstE_zero.1 h0 _ (List.mem_map.2 ⟨y, hy, rfl⟩)
    cases hr : rightI y with
    | true => rfl
    | false =>
      simp only [chunkI_no hr] at this
      exact absurd this (by decide)
  · rename_i h0
    injection h with _ h
    exact absurd h h0
theorem writeI_back {l : List Itm} {x : List Int} (hk : ∀ y ∈ l, ItmOK y) (h : writeI l = (x, 0)) (hne : l ≠ []) : readI x = (l, 0) ∧ x.length ≤ 200 := by
  obtain ⟨hr, hj⟩ := writeI_ok h
  have hb := joinC_back (l := l.map fun x => (chunkI x).1) (fun c hc => by
    obtain ⟨y, hy, rfl⟩ := List.mem_map.1 hc
    exact chunkI_ok (hk y hy)) hj (fun e => hne (List.map_eq_nil_iff.1 e))
  have hc : ∀ y ∈ l, itemC (chunkI y).1 = (y, 0) := fun y hy => itemC_chunkI (hk y hy) (hr y hy)
  have e1 : (l.map fun x => (chunkI x).1).map (fun c => (itemC c).2) = l.map fun _ => (0 : Int) := by
    rw [List.map_map]
    exact List.map_congr_left fun y hy => by simp only [Function.comp, hc y hy]
  have e2 : (l.map fun x => (chunkI x).1).map (fun c => (itemC c).1) = l := by
    rw [List.map_map]
    conv => rhs; rw [← List.map_id l]
    exact List.map_congr_left fun y hy => by simp only [Function.comp, hc y hy]; rfl
  constructor
  · unfold readI
    rw [hb]
    simp only [if_pos]
    rw [e1, e2, if_pos (firstE_zero.2 (fun e he => by obtain ⟨_, _, rfl⟩ := List.mem_map.1 he; rfl))]
  · obtain ⟨q1, _, q3⟩ := joinC_ok hj
    rw [q1, flC_len]
    exact q3
theorem writeI_inj {l m : List Itm} {x y : List Int} (hl : ∀ z ∈ l, ItmOK z) (hm : ∀ z ∈ m, ItmOK z) (h : writeI l = (x, 0)) (k : writeI m = (y, 0)) (hne : l ≠ []) : decide (x = y) = decide (l = m) := by
  by_cases e : x = y
  · subst e
    by_cases hmn : m = []
    · exfalso
      subst hmn
      rw [writeI_nil] at k
      injection k with k _
      have := (joinC_ok (writeI_ok h).2).1
      rw [← k] at this
      exact hne (List.map_eq_nil_iff.1 ((flC_nil_iff _).1 this.symm))
    · have h1 := (writeI_back hl h hne).1
      have h2 := (writeI_back hm k hmn).1
      rw [h1] at h2
      injection h2 with h2 _
      rw [decide_eq_true rfl, decide_eq_true h2]
  · have : ¬ l = m := fun e2 => by
      subst e2
      rw [h] at k
      injection k with k _
      exact e k
    rw [decide_eq_false e, decide_eq_false this]
/-- Two rows, joined. -/
theorem firstE_app (l m : List Int) : firstE (l ++ m) = if firstE l = 0 then firstE m else firstE l := by
  induction l with
  | nil => rfl
  | cons e l ih =>
    show (if e = 0 then firstE (l ++ m) else e) = _
    by_cases h : e = 0
    · rw [if_pos h, ih]
      show _ = if (if e = 0 then firstE l else e) = 0 then firstE m else (if e = 0 then firstE l else e)
      rw [if_pos h]
    · rw [if_neg h]
      show _ = if (if e = 0 then firstE l else e) = 0 then firstE m else (if e = 0 then firstE l else e)
      rw [if_neg h, if_neg h]
theorem szC_app (l m : List Chunk) : szC (l ++ m) = szC l + szC m := by simp [szC]
theorem flC_app (l m : List Chunk) : flC (l ++ m) = flC l ++ flC m := by simp [flC]
theorem chunks_right {l : List Itm} (h : firstE (l.map fun x => (chunkI x).2) = 0) : (l.map fun x => (chunkI x).1).all rightB = true := by
  rw [List.all_eq_true]
  intro c hc
  obtain ⟨y, hy, rfl⟩ := List.mem_map.1 hc
  have := firstE_zero.1 h _ (List.mem_map.2 ⟨y, hy, rfl⟩)
  cases hr : rightI y with
  | true => exact (chunkI_yes hr).2
  | false =>
    simp only [chunkI_no hr] at this
    exact absurd this (by decide)
theorem writeI_cases (l : List Itm) : (¬ firstE (l.map fun x => (chunkI x).2) = 0 ∧ writeI l = ([], firstE (l.map fun x => (chunkI x).2))) ∨ (firstE (l.map fun x => (chunkI x).2) = 0 ∧ 200 < szC (l.map fun x => (chunkI x).1) ∧ writeI l = ([], 4)) ∨ (firstE (l.map fun x => (chunkI x).2) = 0 ∧ ¬ 200 < szC (l.map fun x => (chunkI x).1) ∧ writeI l = (flC (l.map fun x => (chunkI x).1), 0)) := by
  unfold writeI
  by_cases h : firstE (l.map fun x => (chunkI x).2) = 0
  · rw [if_pos h]
    unfold joinC
    rw [if_neg (by rw [chunks_right h]; decide)]
    by_cases h2 : 200 < szC (l.map fun x => (chunkI x).1)
    · rw [if_pos h2]
      exact Or.inr (Or.inl ⟨h, h2, rfl⟩)
    · rw [if_neg h2]
      exact Or.inr (Or.inr ⟨h, h2, rfl⟩)
  · rw [if_neg h]
    exact Or.inl ⟨h, rfl⟩
theorem writeI_app_bad {l m : List Itm} (h : ¬ (writeI l).2 = 0 ∨ ¬ (writeI m).2 = 0) : ¬ (writeI (l ++ m)).2 = 0 := by
  intro h0
  rcases writeI_cases (l ++ m) with ⟨a, b⟩ | ⟨a, b, c⟩ | ⟨a, b, c⟩
  · rw [b] at h0; exact a h0
  · rw [c] at h0; exact absurd h0 (by decide)
  · rw [List.map_append, firstE_app] at a
    rw [List.map_append, szC_app] at b
    have al : firstE (l.map fun x => (chunkI x).2) = 0 := by
      by_cases e : firstE (l.map fun x => (chunkI x).2) = 0
      · exact e
      · rw [if_neg e] at a; exact a
    rw [if_pos al] at a
    rcases h with h | h
    · rcases writeI_cases l with ⟨p, q⟩ | ⟨p, q, r⟩ | ⟨p, q, r⟩
      · exact p al
      · omega
      · rw [r] at h; exact h rfl
    · rcases writeI_cases m with ⟨p, q⟩ | ⟨p, q, r⟩ | ⟨p, q, r⟩
      · exact p a
      · omega
      · rw [r] at h; exact h rfl
theorem writeI_app {l m : List Itm} {x y : List Int} (h : writeI l = (x, 0)) (k : writeI m = (y, 0)) : writeI (l ++ m) = if 200 < x.length + y.length then ([], 4) else (x ++ y, 0) := by
  have hl : firstE (l.map fun x => (chunkI x).2) = 0 ∧ x = flC (l.map fun x => (chunkI x).1) := by
    rcases writeI_cases l with ⟨p, q⟩ | ⟨p, q, r⟩ | ⟨p, q, r⟩
    · rw [q] at h; injection h with _ h; exact absurd h p
    · rw [r] at h; injection h with _ h; exact absurd h (by decide)
    · rw [r] at h; injection h with h _; exact ⟨p, h.symm⟩
  have hm : firstE (m.map fun x => (chunkI x).2) = 0 ∧ y = flC (m.map fun x => (chunkI x).1) := by
    rcases writeI_cases m with ⟨p, q⟩ | ⟨p, q, r⟩ | ⟨p, q, r⟩
    · rw [q] at k; injection k with _ k; exact absurd k p
    · rw [r] at k; injection k with _ k; exact absurd k (by decide)
    · rw [r] at k; injection k with k _; exact ⟨p, k.symm⟩
  have hf : firstE ((l ++ m).map fun x => (chunkI x).2) = 0 := by rw [List.map_append, firstE_app, if_pos hl.1]; exact hm.1
  have hs : szC ((l ++ m).map fun x => (chunkI x).1) = x.length + y.length := by rw [List.map_append, szC_app, hl.2, hm.2, flC_len, flC_len]
  have hfl : flC ((l ++ m).map fun x => (chunkI x).1) = x ++ y := by rw [List.map_append, flC_app, hl.2, hm.2]
  rcases writeI_cases (l ++ m) with ⟨p, q⟩ | ⟨p, q, r⟩ | ⟨p, q, r⟩
  · exact absurd hf p
  · rw [hs] at q; rw [if_pos q, r]
  · rw [hs] at q; rw [if_neg q, r, hfl]
end Go.Proofs.Ytlnikmcimmnbmaa
