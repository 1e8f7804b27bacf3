/- Merged from my texts Read. -/
import Derived.Test.YtlnikmcimmnbmaaMg0
import Derived.Deep.Slices
import Derived.Deep.Fields
/- What comes in reads as plain data, whatever its shape: readers of cells, put together as the type is. -/
namespace Go.Proofs.Ytlnikmcimmnbmaa
set_option linter.unusedSimpArgs false
set_option linter.unusedVariables false
open Go.ChangeShapes Go.WideShapes Go.Deep

/-- How cells read as plain data, in a world. -/
abbrev Reader (α : Type) := World → List Value → α → Prop
/-- Whatever is laid at a type reads so. -/
def Opens (P : Program) (t : TypeId) {α : Type} (R : Reader α) : Prop :=
  ∀ (H : Type) (enc : TypeId × Value → H) (w : World) (base : Nat) (spare : Nat → Bool) (held : Bool) (fuel : Nat) (cs : List Value) (x : DataW H × List MemPlace),
    DataW.trod enc P w base spare held fuel t cs = some x → ∃ y, R w cs y
/-- A reader that minds only what was there. -/
def Keeps {α : Type} (R : Reader α) : Prop := ∀ (w w' : World) (cs : List Value) (y : α), More w w' → R w cs y → R w' cs y

def RInt (k : IntKind) : Reader Int := fun _ cs n => cs = [.int k n] ∧ (Lit.int k n).wf = true
def RBool : Reader Bool := fun _ cs b => cs = [.bool b]
def RStr : Reader ByteArray := fun _ cs s => cs = [.string s] ∧ s.size ≤ maxLen
def RNil : Reader Unit := fun _ cs _ => cs = []
def RCons {α β : Type} (n : Nat) (R : Reader α) (Q : Reader β) : Reader (α × β) := fun w cs y => R w (cs.take n) y.1 ∧ Q w (cs.drop n) y.2
def RArr {α : Type} (m n : Nat) (R : Reader α) : Reader (List α) := fun w cs L => cs.length = m * n ∧ L.length = m ∧ ∀ i (hi : i < L.length), R w ((cs.drop (i * n)).take n) L[i]
/-- A slice that reads as a list, each of its elements of n cells. -/
def SlP {α : Type} (n : Nat) (R : Reader α) (w : World) (v : Value) (L : List α) : Prop :=
  ∃ oa cap, v = .slice oa L.length cap ∧ (L.length : Int) ≤ 9223372036854775807 ∧
    (∀ i (hi : i < L.length), ∃ b off cs, oa = some ⟨b, off, none⟩ ∧ b < w.heap.size ∧ cs.length = n ∧ (∀ j, j < n → w.cell? ⟨b, off + i * n + j, none⟩ = cs[j]?) ∧ R w cs L[i]) ∧
    L.length ≤ cap ∧ cap ≤ maxLen ∧ (oa = none → cap = 0)
def RSl {α : Type} (n : Nat) (R : Reader α) : Reader (List α) := fun w cs L => ∃ v, cs = [v] ∧ SlP n R w v L

theorem Keeps.int (k : IntKind) : Keeps (RInt k) := fun _ _ _ _ _ h => h
theorem Keeps.bool : Keeps RBool := fun _ _ _ _ _ h => h
theorem Keeps.str : Keeps RStr := fun _ _ _ _ _ h => h
theorem Keeps.nil : Keeps RNil := fun _ _ _ _ _ h => h
theorem Keeps.cons {α β : Type} {n : Nat} {R : Reader α} {Q : Reader β} (h : Keeps R) (k : Keeps Q) : Keeps (RCons n R Q) := fun _ _ _ _ m ⟨a, b⟩ => ⟨h _ _ _ _ m a, k _ _ _ _ m b⟩
theorem Keeps.arr {α : Type} {m n : Nat} {R : Reader α} (h : Keeps R) : Keeps (RArr m n R) := fun _ _ _ _ mm ⟨a, b, c⟩ => ⟨a, b, fun i hi => h _ _ _ _ mm (c i hi)⟩
theorem SlP.keep {α : Type} {n : Nat} {R : Reader α} {w w' : World} {v : Value} {L : List α} (hR : Keeps R) (h : SlP n R w v L) (m : More w w') : SlP n R w' v L := by
  obtain ⟨oa, cap, h1, h2, h3, h4⟩ := h
  refine ⟨oa, cap, h1, h2, fun i hi => ?_, h4⟩
  obtain ⟨b, off, cs, e, hb, hl, hc, hr⟩ := h3 i hi
  exact ⟨b, off, cs, e, Nat.lt_of_lt_of_le hb m.size, hl, fun j hj => by rw [m.cells b _ hb]; exact hc j hj, hR _ _ _ _ m hr⟩
theorem Keeps.sl {α : Type} {n : Nat} {R : Reader α} (h : Keeps R) : Keeps (RSl n R) := fun _ _ _ _ m ⟨v, e, s⟩ => ⟨v, e, s.keep h m⟩

section
variable {P : Program} {t e : TypeId}
theorem Opens.int {k : IntKind} (ht : P.underlying t = some (.int k)) : Opens P t (RInt k) := fun _ _ _ _ _ _ _ _ _ h => by
  obtain ⟨n, rfl, _, hw⟩ := DataW.trod_int ht h
  exact ⟨n, rfl, hw⟩
theorem Opens.bool (ht : P.underlying t = some .bool) : Opens P t RBool := fun _ _ _ _ _ _ _ _ _ h => by
  obtain ⟨n, rfl, _⟩ := DataW.trod_bool ht h
  exact ⟨n, rfl⟩
theorem Opens.str (ht : P.underlying t = some .string) : Opens P t RStr := fun _ _ _ _ _ _ _ _ _ h => by
  obtain ⟨n, rfl, _, hl⟩ := DataW.trod_string ht h
  exact ⟨n, rfl, hl⟩
theorem SlP.nil {α : Type} (n : Nat) (R : Reader α) (w : World) : SlP n R w (.slice none 0 0) [] := ⟨none, 0, rfl, by simp, fun i hi => by simp at hi, by simp, by unfold maxLen; omega, fun _ => rfl⟩

theorem exists_list {α : Type} {p : Nat → α → Prop} : ∀ (n : Nat), (∀ i, i < n → ∃ y, p i y) → ∃ L : List α, L.length = n ∧ ∀ i (hi : i < L.length), p i L[i]
  | 0, _ => ⟨[], rfl, fun i hi => by simp at hi⟩
  | n + 1, h => by
    obtain ⟨L, hl, hp⟩ := exists_list n (fun i hi => h i (by omega))
    obtain ⟨y, hy⟩ := h n (by omega)
    refine ⟨L ++ [y], by simp [hl], fun i hi => ?_⟩
    simp at hi
    by_cases e : i < L.length
    · rw [List.getElem_append_left e]; exact hp i e
    · obtain rfl : i = L.length := by omega
      simp [hl, hy]

theorem Opens.sl {α : Type} {n : Nat} {R : Reader α} (ht : P.underlying t = some (.slice e)) (hn : P.cellsOf e = n) (hn1 : 1 ≤ n) (h : Opens P e R) : Opens P t (RSl n R) := fun H enc w base spare held fuel cs x hx => by
  rcases open_slice ht hx with ⟨rfl, _⟩ | ⟨a, len, cap, m, n', D, Pl, rfl, hb, hl, hm, hmm, _, hi⟩
  · exact ⟨[], _, rfl, SlP.nil n R w⟩
  · have hlm : len ≤ m := by rw [hmm]; split <;> omega
    rw [hn] at hi
    obtain ⟨L, hL, hp⟩ := exists_list (p := fun i y => ∃ cs, w.cells? base (a.add (i * n)) n = some cs ∧ R w cs y) len (fun i hil => by
      obtain ⟨cs', hc, ht'⟩ := hi i (by omega)
      obtain ⟨y, hy⟩ := h H enc w base spare held n' cs' _ ht'
      exact ⟨y, cs', hc, hy⟩)
    refine ⟨L, _, rfl, some a, cap, by rw [hL], by rw [hL]; unfold maxLen at hm; omega, fun i hil => ?_, by rw [hL]; exact hl, hm, fun h => by cases h⟩
    obtain ⟨cs', hc, hr⟩ := hp i hil
    obtain ⟨_, hcl, hat⟩ := World.cells?_some hc
    have h0 := hat 0 (by omega)
    rw [List.getElem?_eq_getElem (by omega)] at h0
    have hs := cell_lt h0
    obtain ⟨b, off, sp⟩ := a
    have hadd : ∀ k, (⟨b, off, sp⟩ : Addr).add k = ⟨b, off + k, if k = 0 then sp else none⟩ := by
      intro k; unfold Addr.add; split
      · rename_i hk; subst hk; rfl
      · rfl
    have hb2 : b < w.heap.size := by
      have := hs.2
      rw [hadd] at this
      unfold Addr.add at this
      exact this
    have hsp : sp = none := by
      obtain ⟨cs0, hc0, _⟩ := hp 0 (by omega)
      obtain ⟨_, hcl0, hat0⟩ := World.cells?_some hc0
      have h00 := hat0 0 (by omega)
      rw [List.getElem?_eq_getElem (by omega)] at h00
      have hs0 := (cell_lt h00).1
      simp [Addr.add] at hs0
      exact hs0
    subst hsp
    refine ⟨b, off, cs', rfl, hb2, hcl, fun j hj => ?_, hr⟩
    rw [← hat j hj, hadd]
    have : (⟨b, off + i * n, if i * n = 0 then none else none⟩ : Addr) = ⟨b, off + i * n, none⟩ := by split <;> rfl
    rw [this]
    unfold Addr.add; split
    · rename_i h0; subst h0; rfl
    · rfl

/-- The fields of a struct, from one on. -/
def OpensF (P : Program) (fs : List Field) (off : Nat) {α : Type} (R : Reader α) : Prop :=
  ∀ (H : Type) (enc : TypeId × Value → H) (w : World) (base : Nat) (spare : Nat → Bool) (held : Bool) (n total : Nat) (cs : List Value), cs.length = total → total = off + (fs.map fun f => P.cellsOf f.type).sum →
    (∀ f ∈ fs, ∃ x, DataW.trod enc P w base spare held n f.type ((cs.drop f.offset).take (P.cellsOf f.type)) = some x) → ∃ y, R w (cs.drop off) y
theorem OpensF.nil {off : Nat} : OpensF P [] off RNil := fun _ _ _ _ _ _ _ _ cs hl ht _ => ⟨(), by
  simp at ht
  exact List.drop_eq_nil_of_le (by omega)⟩
theorem OpensF.cons {α β : Type} {f : Field} {fs : List Field} {off n : Nat} {R : Reader α} {Q : Reader β} (ho : f.offset = off) (hn : P.cellsOf f.type = n) (h : Opens P f.type R) (k : OpensF P fs (off + n) Q) : OpensF P (f :: fs) off (RCons n R Q) := fun H enc w base spare held m total cs hl ht hx => by
  obtain ⟨x, hx0⟩ := hx f (by simp)
  obtain ⟨y, hy⟩ := h H enc w base spare held m _ x hx0
  obtain ⟨z, hz⟩ := k H enc w base spare held m total cs hl (by rw [ht]; simp [hn]; omega) (fun g hg => hx g (by simp [hg]))
  rw [ho, hn] at hy
  exact ⟨(y, z), hy, by rw [List.drop_drop]; exact hz⟩
theorem Opens.struct {α : Type} {fs : Array Field} {R : Reader α} (ht : P.underlying t = some (.struct fs)) (hc : P.cellsOf t = (fs.toList.map fun f => P.cellsOf f.type).sum) (h : OpensF P fs.toList 0 R) : Opens P t R := fun H enc w base spare held fuel cs x hx => by
  obtain ⟨xs, n, _, _, hl, hxl, hf⟩ := DataW.trod_struct ht hx
  obtain ⟨y, hy⟩ := h H enc w base spare held n _ cs rfl (by rw [hl, hc]; omega) (fun f hf' => by
    obtain ⟨i, hi, rfl⟩ := List.mem_iff_getElem.1 hf'
    have hi' : i < fs.size := by simpa using hi
    have := hf i fs[i] (by simp [hi'])
    rw [List.getElem?_eq_getElem (by omega)] at this
    exact ⟨_, by simpa using this⟩)
  exact ⟨y, by simpa using hy⟩
theorem Opens.arr {α : Type} {m n : Nat} {R : Reader α} (ht : P.underlying t = some (.array m e)) (hn : P.cellsOf e = n) (hc : P.cellsOf t = m * n) (h : Opens P e R) : Opens P t (RArr m n R) := fun H enc w base spare held fuel cs x hx => by
  obtain ⟨xs, n', _, _, hl, hxl, hf⟩ := DataW.trod_array ht hx
  rw [hn] at hf
  obtain ⟨L, hL, hp⟩ := exists_list (p := fun i y => R w ((cs.drop (i * n)).take n) y) m (fun i hi => by
    have := hf i hi
    rw [List.getElem?_eq_getElem (by omega)] at this
    exact h H enc w base spare held n' _ _ this)
  exact ⟨L, by rw [hl, hc], hL, hp⟩
end

/-- A slice of integers. -/
theorem SlP.ints {k : IntKind} {w : World} {v : Value} {L : List Int} (h : SlP 1 (RInt k) w v L) : SlI k w v L ∧ ∀ n ∈ L, (Lit.int k n).wf = true := by
  obtain ⟨oa, cap, h1, h2, h3, h4⟩ := h
  refine ⟨⟨oa, cap, h1, h2, fun i hi => ?_, h4⟩, fun n hn => ?_⟩
  · obtain ⟨b, off, cs, e, hb, hl, hc, hr, _⟩ := h3 i hi
    refine ⟨b, off, e, hb, ?_⟩
    have := hc 0 (by omega)
    rw [hr] at this
    simpa [hi] using this
  · obtain ⟨i, hi, rfl⟩ := List.mem_iff_getElem.1 hn
    obtain ⟨b, off, cs, e, hb, hl, hc, hr, hw⟩ := h3 i hi
    exact hw
end Go.Proofs.Ytlnikmcimmnbmaa
