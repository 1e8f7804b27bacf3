/- Merged from my texts WireC. -/
import Derived.Test.YtdgmmffedhikcaaMg3
/- Contracts of wire.Reader. -/
namespace Go.Proofs.Ytdgmmffedhikcaa
set_option linter.unusedSimpArgs false
set_option linter.unusedVariables false
open Go.RowKit
set_option maxRecDepth 100000

theorem owns_ge {w : World} {base e size n b : Nat} {v : Value} {xs : List Value} (h : w.ownsRow base e size v n xs) (hb : v.ownBlock = some b) : base ≤ b := by
  rcases h.2 with ⟨rfl, _⟩ | ⟨b', cap, cur, rfl, hb', _⟩
  · cases hb
  · obtain rfl : b' = b := by injection hb
    exact hb'
theorem Wrote.to_more {w0 w w' : World} {W : Nat} {v : Value} {l l0 : List Int} (hw : Wrote w w' W v l) (h : WriterAt w W v l0) (m : More w0 w) (hW : w0.heap.size ≤ W) : More w0 w' :=
  Away.to_more m hw.2 (by
    rintro k (rfl | hk)
    · exact hW
    · have := owns_ge h.row hk; omega)
theorem rd_more {w0 w w' : World} {R : Nat} (a : Away (fun b => b = R) w w') (m : More w0 w) (hR : w0.heap.size ≤ R) : More w0 w' :=
  Away.to_more m a (by rintro k rfl; exact hR)
/-- A new writer. -/
theorem writer_new (w : World) : WriterAt (w.alloc (.cells #[.slice none 0 0] 160)) w.heap.size (.slice none 0 0) [] := ⟨blk_new _ _, ⟨rfl, Or.inl ⟨rfl, rfl⟩⟩⟩
/-- A writer, and a block beside it that stays. -/
structure WrK (w0 w : World) (W : Nat) (v : Value) (l : List Int) (B : Nat) (o : Obj) : Prop where
  wr : WriterAt w W v l
  more : More w0 w
  base : w0.heap.size ≤ W
  keep : w.heap[B]? = some o
  ne : ¬ B = W
  apart : v.ownBlock ≠ some B
theorem WrK.new {w0 w : World} {W : Nat} {v : Value} {l : List Int} (o : Obj) (h : WriterAt w W v l) (m : More w0 w) (b : w0.heap.size ≤ W) : WrK w0 (w.alloc o) W v l w.heap.size o :=
  ⟨h.more (More.alloc w o), m.al o, b, blk_new w o, fun e => by have := blk_lt h.blk; omega, fun e => by have := owns_lt h.row e; omega⟩
theorem WrK.on {w0 w w' : World} {W : Nat} {v : Value} {l : List Int} {B : Nat} {o : Obj} (h : WrK w0 w W v l B o) (x : More w w') : WrK w0 w' W v l B o :=
  ⟨h.wr.more x, h.more.trans x, h.base, blk_more x h.keep, h.ne, h.apart⟩
theorem WrK.wrote {w0 w w' : World} {W : Nat} {v : Value} {l l' : List Int} {B : Nat} {o : Obj} (h : WrK w0 w W v l B o) (x : Wrote w w' W v l') : ∃ v', WrK w0 w' W v' l' B o := by
  have hm := x.to_more h.wr h.more h.base
  obtain ⟨⟨v', h1, h2⟩, a⟩ := x
  refine ⟨v', h1, hm, h.base, a.blk h.keep ?_, h.ne, ?_⟩
  · rintro (e | e)
    · exact h.ne e
    · exact h.apart e
  · intro e
    rcases h2 with h2 | ⟨g, h2, h3⟩
    · exact h.apart (by rw [← h2]; exact e)
    · rw [e] at h2
      obtain rfl : B = g := by injection h2
      have := blk_lt h.keep
      omega
/-- A reader: what is left, and what went wrong. -/
structure ReaderAt (w : World) (R : Nat) (left : List Int) (wrong : Int) (C : Nat → Prop := fun _ => True) : Prop where
  blk : ∃ v, w.heap[R]? = some (.cells #[v, .int .i64 wrong] 177 (0, 0)) ∧ SlI .u8 w v left ∧ (¬ left = [] → ∀ g, v.ownBlock = some g → C g)
  small : left.length ≤ 1000000
  byt : Byt left
  shut : ¬ wrong = 0 → left = []
theorem ReaderAt.more {w w' : World} {R : Nat} {l : List Int} {e : Int} {C : Nat → Prop} (h : ReaderAt w R l e C) (m : More w w') : ReaderAt w' R l e C := by
  obtain ⟨⟨v, h1, h2, h6⟩, h3, h4, h5⟩ := h
  exact ⟨⟨v, blk_more m h1, h2.keep m, h6⟩, h3, h4, h5⟩
theorem ReaderAt.mono {w : World} {R : Nat} {l : List Int} {e : Int} {C D : Nat → Prop} (h : ReaderAt w R l e C) (k : ∀ g, C g → D g) : ReaderAt w R l e D := by
  obtain ⟨⟨v, h1, h2, h6⟩, h3, h4, h5⟩ := h
  exact ⟨⟨v, h1, h2, fun x g y => k g (h6 x g y)⟩, h3, h4, h5⟩
theorem ReaderAt.any {w : World} {R : Nat} {l : List Int} {e : Int} {C : Nat → Prop} (h : ReaderAt w R l e C) : ReaderAt w R l e := h.mono fun _ _ => trivial
/-- The bytes that are left were there. -/
theorem ReaderAt.old {w : World} {R : Nat} {l : List Int} {e : Int} {C : Nat → Prop} (h : ReaderAt w R l e C) : ReaderAt w R l e (fun g => C g ∧ g < w.heap.size) := by
  obtain ⟨⟨v, h1, h2, h6⟩, h3, h4, h5⟩ := h
  refine ⟨⟨v, h1, h2, fun x g y => ⟨h6 x g y, ?_⟩⟩, h3, h4, h5⟩
  obtain ⟨oa, cap, rfl, _, k2, _⟩ := h2
  obtain ⟨b, off, rfl, hb, _⟩ := k2 0 (List.length_pos_iff.2 x)
  obtain rfl : b = g := by injection y
  exact hb
theorem slI_offN {D : Nat → Prop} {w w' : World} {v : Value} {l : List Int} (h : SlI .u8 w v l) (hb : ¬ l = [] → ∀ b, v.ownBlock = some b → ¬ D b) (a : Away D w w') : SlI .u8 w' v l := by
  obtain ⟨oa, cap, rfl, h2, h3, h4⟩ := h
  refine ⟨oa, cap, rfl, h2, fun i hi => ?_, h4⟩
  obtain ⟨b, off, rfl, hlt, hc⟩ := h3 i hi
  exact ⟨b, off, rfl, Nat.lt_of_lt_of_le hlt a.size, by rw [a.cells b _ hlt (hb (fun e => by rw [e] at hi; simp at hi) b rfl)]; exact hc⟩
/-- Blocks that the reader has nothing in are written. -/
theorem ReaderAt.off {D : Nat → Prop} {w w' : World} {R : Nat} {l : List Int} {e : Int} {C : Nat → Prop} (h : ReaderAt w R l e C) (m : Away D w w') (hR : ¬ D R) (hD : ∀ g, C g → ¬ D g) : ReaderAt w' R l e C := by
  obtain ⟨⟨v, h1, h2, h6⟩, h3, h4, h5⟩ := h
  exact ⟨⟨v, m.blk h1 hR, slI_offN h2 (fun x b y => hD b (h6 x b y)) m, h6⟩, h3, h4, h5⟩
/-- No cell of a reader is a byte. -/
theorem reader_cell {w : World} {R : Nat} {l : List Int} {e : Int} {C : Nat → Prop} (h : ReaderAt w R l e C) (o : Nat) (x : Int) : w.cell? ⟨R, o, none⟩ ≠ some (.int .u8 x) := by
  obtain ⟨⟨v, h1, ⟨oa, cap, rfl, _⟩, _⟩, _⟩ := h
  rw [cell_of_row w R o _ _ _ h1]
  match o with
  | 0 => simp
  | 1 => simp
  | n + 2 => simp
theorem SlI.away {S : Nat → Prop} {w w' : World} {v : Value} {l : List Int} (h : SlI .u8 w v l) (m : Away S w w') (hs : ∀ b, S b → ∀ o x, w.cell? ⟨b, o, none⟩ ≠ some (.int .u8 x)) : SlI .u8 w' v l := by
  obtain ⟨oa, cap, h1, h2, h3, h4⟩ := h
  refine ⟨oa, cap, h1, h2, fun i hi => ?_, h4⟩
  obtain ⟨b, off, e, hb, hc⟩ := h3 i hi
  exact ⟨b, off, e, Nat.lt_of_lt_of_le hb m.size, by rw [m.cells b _ hb (fun s => hs b s _ _ hc)]; exact hc⟩
theorem ReaderAt.away {S : Nat → Prop} {w w' : World} {R : Nat} {l : List Int} {e : Int} {C : Nat → Prop} (h : ReaderAt w R l e C) (m : Away S w w') (hR : ¬ S R) (hs : ∀ b, S b → ∀ o x, w.cell? ⟨b, o, none⟩ ≠ some (.int .u8 x)) : ReaderAt w' R l e C := by
  obtain ⟨⟨v, h1, h2, h6⟩, h3, h4, h5⟩ := h
  exact ⟨⟨v, m.blk h1 hR, h2.away m hs, h6⟩, h3, h4, h5⟩
theorem byt_nil : Byt [] := by intro i; simp
theorem Byt.drop {l : List Int} (h : Byt l) (n : Nat) : Byt (l.drop n) := by
  intro i
  have := h (n + i)
  rw [List.getD_eq_getElem?_getD] at this ⊢
  rw [List.getElem?_drop]; exact this
theorem Byt.take {l : List Int} (h : Byt l) (n : Nat) : Byt (l.take n) := by
  intro i
  have := h i
  rw [List.getD_eq_getElem?_getD] at this ⊢
  rw [List.getElem?_take]
  split
  · exact this
  · simp
/-- What is taken; what is left; what went wrong. -/
def tkB (l : List Int) (n : Int) : List Int := if n ≤ l.length then l.take n.toNat else []
def tkL (l : List Int) (n : Int) : List Int := l.drop n.toNat
def tkE (l : List Int) (n e : Int) : Int := if (l.length : Int) < n ∧ e = 0 then 3 else e
theorem tkB_app (a b : List Int) : tkB (a ++ b) a.length = a := by
  unfold tkB; rw [if_pos (by simp; omega)]; simp
theorem tkL_app (a b : List Int) : tkL (a ++ b) a.length = b := by
  unfold tkL; simp
theorem tkE_app (a b : List Int) (e : Int) : tkE (a ++ b) a.length e = e := by
  unfold tkE; rw [if_neg (by simp; omega)]
theorem byt_app {a b : List Int} (ha : Byt a) (hb : Byt b) : Byt (a ++ b) := by
  intro i
  by_cases h : i < a.length
  · have := ha i
    rw [List.getD_eq_getElem?_getD] at this ⊢
    rw [List.getElem?_append_left h]; exact this
  · have := hb (i - a.length)
    rw [List.getD_eq_getElem?_getD] at this ⊢
    rw [List.getElem?_append_right (by omega)]; exact this
theorem RdLeft_any {w : World} {R : Nat} {l : List Int} {e : Int} {C : Nat → Prop} (h : ReaderAt w R l e C) :
    Calls Try.prog 64 #[.pointer (some ⟨R, 0, none⟩)] w fun e' w' => e' = .returned (.int .i64 l.length) ∧ w' = w := by
  obtain ⟨⟨v, h1, ⟨oa, cap, rfl, _⟩, _⟩, _⟩ := h
  have c0 := blk_cell h1 0 (v := .slice oa l.length cap) rfl
  clear h1
  go_enter Try.func64, Try.ntmps64
  go_wp2
  go_ret
  exact ⟨rfl, rfl⟩
theorem RdNew_any (v : Value) (l : List Int) (w : World) (sl : SlI .u8 w v l) (hb : Byt l) (hl : l.length ≤ 1000000) :
    Calls Try.prog 58 #[v] w fun e w' => ∃ R, e = .returned (.pointer (some ⟨R, 0, none⟩)) ∧ w.heap.size ≤ R ∧ ReaderAt w' R l 0 ∧ More w w' := by
  go_enter Try.func58, Try.ntmps58
  go_wp2_with (go_at_call 41; refine (Clone_any v l w sl hl).mono ?_; rintro e w2 ⟨v2, rfl, ho, hm⟩; have H2 := Lib.hid ho; have M2 := Lib.hid hm; obtain ⟨ov, nv, cv, rfl, hnv⟩ := slice_of_row ho; clear ho hm hnv)
  go_ret
  exact ⟨_, rfl, M2.out.size, ⟨⟨_, blk_new _ _, (SlI.of_owns H2.out (by omega)).keep (More.alloc _ _), fun _ _ _ => trivial⟩, hl, hb, fun h => absurd rfl h⟩, M2.out.al _⟩
theorem RdNew_in (v : Value) (l : List Int) (w : World) (sl : SlI .u8 w v l) (hb : Byt l) (hl : l.length ≤ 1000000) :
    Calls Try.prog 58 #[v] w fun e w' => ∃ R, e = .returned (.pointer (some ⟨R, 0, none⟩)) ∧ w.heap.size ≤ R ∧ ReaderAt w' R l 0 (fun g => w.heap.size ≤ g ∧ g < w'.heap.size) ∧ More w w' := by
  go_enter Try.func58, Try.ntmps58
  go_wp2_with (go_at_call 41; refine (Clone_any v l w sl hl).mono ?_; rintro e w2 ⟨v2, rfl, ho, hm⟩; have H2 := Lib.hid ho; have M2 := Lib.hid hm; obtain ⟨ov, nv, cv, rfl, hnv⟩ := slice_of_row ho; clear ho hm hnv)
  go_ret
  exact ⟨_, rfl, M2.out.size, ⟨⟨_, blk_new _ _, (SlI.of_owns H2.out (by omega)).keep (More.alloc _ _), fun _ g y => ⟨owns_ge H2.out y, Nat.lt_of_lt_of_le (owns_lt H2.out y) (More.alloc _ _).size⟩⟩, hl, hb, fun h => absurd rfl h⟩, M2.out.al _⟩
theorem RdWrong_no {w : World} {R : Nat} {l : List Int} {e : Int} {C : Nat → Prop} (h : ReaderAt w R l e C) (x : Int) (hx : x = 0 ∨ (¬ x = 0 ∧ ¬ e = 0)) :
    Calls Try.prog 62 #[.pointer (some ⟨R, 0, none⟩), .int .i64 x] w fun e' w' => e' = .returned (.tuple #[]) ∧ w' = w := by
  obtain ⟨⟨v, h1, h2, h6⟩, _⟩ := h
  have c1 := blk_cell h1 1 (v := .int .i64 e) rfl
  clear h1 h2 h6
  rcases hx with hx | ⟨hx, he⟩
  · subst hx
    go_enter Try.func62, Try.ntmps62
    go_wp2
    refine bodyPost_ret (v := .tuple #[]) ?rr rfl ?_
    case rr => simp [results, Try.results62, go_sem]
    exact ⟨rfl, rfl⟩
  · have hb1 : (x == 0) = false := by simpa using hx
    have hb2 : (e != 0) = true := by simpa using he
    go_enter Try.func62, Try.ntmps62
    go_wp2
    refine bodyPost_ret (v := .tuple #[]) ?rr rfl ?_
    case rr => simp [results, Try.results62, go_sem]
    exact ⟨rfl, rfl⟩
theorem RdWrong_yes {w : World} {R : Nat} {l : List Int} {C : Nat → Prop} (h : ReaderAt w R l 0 C) (x : Int) (hx : ¬ x = 0) :
    Calls Try.prog 62 #[.pointer (some ⟨R, 0, none⟩), .int .i64 x] w fun e' w' => e' = .returned (.tuple #[]) ∧ ReaderAt w' R [] x C ∧ Away (fun b => b = R) w w' := by
  obtain ⟨⟨v, h1, ⟨oa, cap, rfl, _⟩, _⟩, _⟩ := h
  have c0 := blk_cell h1 0 (v := .slice oa l.length cap) rfl
  have c1 := blk_cell h1 1 (v := .int .i64 0) rfl
  have f0 := blk_free h1 0
  have f1 := blk_free h1 1
  have H1 := Lib.hid h1
  have hb1 : (x == 0) = false := by simpa using hx
  clear h1
  go_enter Try.func62, Try.ntmps62
  go_wp2
  refine bodyPost_end (v := .tuple #[]) ?rr rfl ?_
  case rr => simp [results, Try.results62, go_sem]
  exact ⟨rfl, ⟨⟨_, blk_eq (blk_set (blk_set H1.out 1 _) 0 _) rfl, SlI.nil _ _, fun x => absurd rfl x⟩, by simp, byt_nil, fun _ => rfl⟩, ((Away.refl (fun b => b = R) w).set (p := ⟨R, 1, none⟩) rfl _).set (p := ⟨R, 0, none⟩) rfl _⟩
theorem RdTake_nil {w : World} {R : Nat} {l : List Int} {e : Int} (n : Int) (hn : n ≤ 0) {C : Nat → Prop} (h : ReaderAt w R l e C) :
    Calls Try.prog 92 #[.pointer (some ⟨R, 0, none⟩), .int .i64 n] w fun e' w' => e' = .returned (.slice none 0 0) ∧ w' = w := by
  clear h
  go_enter Try.func92, Try.ntmps92
  go_wp2
  go_ret
  exact ⟨rfl, rfl⟩
theorem RdTake_short {w : World} {R : Nat} {l : List Int} {e : Int} (n : Int) (hn : 0 < n) (hl : (l.length : Int) < n) {C : Nat → Prop} (h : ReaderAt w R l e C) :
    Calls Try.prog 92 #[.pointer (some ⟨R, 0, none⟩), .int .i64 n] w fun e' w' => e' = .returned (.slice none 0 0) ∧ ReaderAt w' R [] (tkE l n e) C ∧ Away (fun b => b = R) w w' := by
  have HR := Lib.hid h
  obtain ⟨⟨v, h1, ⟨oa, cap, rfl, _⟩, _⟩, _⟩ := h
  have c0 := blk_cell h1 0 (v := .slice oa l.length cap) rfl
  clear h1
  by_cases he : e = 0
  · subst he
    go_enter Try.func92, Try.ntmps92
    go_wp2_with (go_at_call 62; refine (RdWrong_yes HR.out 3 (by decide)).mono ?_; rintro e w2 ⟨rfl, h2, a2⟩)
    go_ret
    refine ⟨rfl, ?_, a2⟩
    have : tkE l n 0 = 3 := by unfold tkE; rw [if_pos ⟨hl, rfl⟩]
    rw [this]; exact h2
  · go_enter Try.func92, Try.ntmps92
    go_wp2_with (go_at_call 62; refine (RdWrong_no HR.out 3 (Or.inr ⟨by decide, he⟩)).mono ?_; rintro e w2 ⟨rfl, rfl⟩)
    go_ret
    have h9 := HR.out
    have : tkE l n e = e := by unfold tkE; rw [if_neg (fun x => he x.2)]
    rw [this]
    obtain rfl := h9.shut he
    exact ⟨rfl, h9, Away.refl _ _⟩
theorem own_from {oa : Option Addr} {c n g m m' k k' : Nat} (h : (Value.slice (if c = n then oa else oa.map (·.add n)) m k).ownBlock = some g) : (Value.slice oa m' k').ownBlock = some g := by
  by_cases e : c = n
  · rw [if_pos e] at h
    cases oa <;> exact h
  · rw [if_neg e] at h
    cases oa with
    | none => exact h
    | some a =>
      simp only [Option.map_some, Value.ownBlock] at h ⊢
      rw [← h]
      unfold Addr.add
      split <;> rfl
theorem RdTake_some {w : World} {R : Nat} {l : List Int} {e : Int} (n : Nat) (hn : 0 < n) (hl : n ≤ l.length) {C : Nat → Prop} (h : ReaderAt w R l e C) :
    Calls Try.prog 92 #[.pointer (some ⟨R, 0, none⟩), .int .i64 n] w fun e' w' => ∃ v', e' = .returned v' ∧ SlI .u8 w' v' (l.take n) ∧ ReaderAt w' R (l.drop n) e C ∧ Away (fun b => b = R) w w' := by
  have HR := Lib.hid h
  have nb := fun o x => reader_cell h o x
  have NB := Lib.hid nb
  obtain ⟨⟨v, h1, h2, h6⟩, h3, h4, h5⟩ := h
  have H6 := Lib.hid h6
  clear h6
  have H1 := Lib.hid h1
  have H2 := Lib.hid h2
  obtain ⟨oa, cap, rfl, k1, k2, k3, k4, k5⟩ := h2
  have c0 := blk_cell h1 0 (v := .slice oa l.length cap) rfl
  have f0 := blk_free h1 0
  have hn0 : ¬ (n : Int) ≤ 0 := by omega
  have hnl : ¬ (l.length : Int) < (n : Int) := by omega
  have hnc : (n : Int) ≤ (cap : Int) := by omega
  have hlc : (l.length : Int) ≤ (cap : Int) := by omega
  have hnl2 : (n : Int) ≤ (l.length : Int) := by omega
  have hni : (0 : Int) ≤ (n : Int) := by omega
  have K4 := Lib.hid k4
  have H5 := Lib.hid h5
  clear h1 k1 k2 k3 k4 k5 h5 nb
  have hx : ∀ oa' c', (oa' = if cap = n then oa else oa.map (·.add n)) → c' = cap - n → ∃ v', Ending.returned (.slice oa n n) = .returned v' ∧ SlI .u8 (w.setCell ⟨R, 0, none⟩ (.slice oa' (l.length - n) c')) v' (l.take n) ∧ ReaderAt (w.setCell ⟨R, 0, none⟩ (.slice oa' (l.length - n) c')) R (l.drop n) e C ∧ Away (fun b => b = R) w (w.setCell ⟨R, 0, none⟩ (.slice oa' (l.length - n) c')) := by
    intro oa' c' e1 e2
    have A0 : Away (fun b => b = R) w (w.setCell ⟨R, 0, none⟩ (.slice oa' (l.length - n) c')) := (Away.refl (fun b => b = R) w).set (p := ⟨R, 0, none⟩) rfl _
    have hs : ∀ b, b = R → ∀ o x, w.cell? ⟨b, o, none⟩ ≠ some (.int .u8 x) := by rintro b rfl; exact NB.out
    subst e2
    exact ⟨_, rfl, ((H2.out.take3 n hl).away A0 hs), ⟨⟨_, blk_eq (blk_set H1.out 0 _) rfl, (H2.out.from_ n hl _ e1).away A0 hs, fun x g y => H6.out (fun z => x (by rw [z]; simp)) g (by subst e1; exact own_from y)⟩, by simp; omega, h4.drop n, fun x => by rw [H5.out x]; simp⟩, A0⟩
  have HX := Lib.hid hx
  clear hx
  go_enter Try.func92, Try.ntmps92
  go_wp2
  all_goals (go_ret; first | exact HX.out _ _ rfl rfl | exact HX.out _ _ (by rw [if_pos (by omega)]) (by omega) | exact HX.out _ _ (by rw [if_neg (by omega)]) rfl)
theorem RdTake_any {w : World} {R : Nat} {l : List Int} {e : Int} (n : Int) {C : Nat → Prop} (h : ReaderAt w R l e C) :
    Calls Try.prog 92 #[.pointer (some ⟨R, 0, none⟩), .int .i64 n] w fun e' w' => ∃ v', e' = .returned v' ∧ SlI .u8 w' v' (tkB l n) ∧ ReaderAt w' R (tkL l n) (tkE l n e) C ∧ Away (fun b => b = R) w w' := by
  by_cases h0 : n ≤ 0
  · refine (RdTake_nil n h0 h).mono ?_
    rintro e' w' ⟨rfl, rfl⟩
    have e1 : n.toNat = 0 := by omega
    have e2 : tkB l n = [] := by unfold tkB; rw [e1]; split <;> simp
    have e3 : tkE l n e = e := by unfold tkE; rw [if_neg (by omega)]
    have e4 : tkL l n = l := by unfold tkL; rw [e1]; simp
    rw [e2, e3, e4]
    exact ⟨_, rfl, SlI.nil _ _, h, Away.refl _ _⟩
  · by_cases h1 : (l.length : Int) < n
    · refine (RdTake_short n (by omega) h1 h).mono ?_
      rintro e' w' ⟨rfl, h2, a2⟩
      have e2 : tkB l n = [] := by unfold tkB; rw [if_neg (by omega)]
      have e4 : tkL l n = [] := by unfold tkL; exact List.drop_eq_nil_of_le (by omega)
      rw [e2, e4]
      exact ⟨_, rfl, SlI.nil _ _, h2, a2⟩
    · obtain ⟨k, rfl⟩ : ∃ k : Nat, n = k := ⟨n.toNat, by omega⟩
      refine (RdTake_some k (by omega) (by omega) h).mono ?_
      rintro e' w' ⟨v', rfl, h2, h3, a2⟩
      have e2 : tkB l k = l.take k := by unfold tkB; rw [if_pos (by omega)]; simp
      have e4 : tkL l k = l.drop k := by unfold tkL; simp
      have e3 : tkE l k e = e := by unfold tkE; rw [if_neg (by omega)]
      rw [e2, e3, e4]
      exact ⟨_, rfl, h2, h3, a2⟩
theorem tkB_byt {l : List Int} (h : Byt l) (n : Int) : Byt (tkB l n) := by
  unfold tkB; split
  · exact h.take _
  · exact byt_nil
theorem tkB_len (l : List Int) (n : Int) (h0 : 0 ≤ n) : ((tkB l n).length : Int) ≤ n := by
  unfold tkB; split
  · rw [List.length_take]; omega
  · exact h0
theorem num_lt (l : List Int) (k : Nat) (h : Byt l) (hl : (l.length : Int) ≤ k) (hk : k ≤ 8) : 0 ≤ num l ∧ num l < 2 ^ (8 * k) := by
  have h1 := numE_bd l h
  rw [num_eq_numE l h (by omega)]
  refine ⟨h1.1, Int.lt_of_lt_of_le h1.2 ?_⟩
  have : 2 ^ (8 * l.length) ≤ 2 ^ (8 * k) := Nat.pow_le_pow_right (by decide) (by omega)
  exact_mod_cast this
theorem read_byte_any {w : World} {R : Nat} {l : List Int} {e : Int} {C : Nat → Prop} (h : ReaderAt w R l e C) (n : Nat) (hn8 : n ≤ 1) :
    Calls Try.prog 91 #[.func (.func 92) #[.pointer (some ⟨R, 0, none⟩)] #[], .int .i64 n] w fun e' w' => e' = .returned (.int .u8 (num (tkB l n))) ∧ ReaderAt w' R (tkL l n) (tkE l n e) C ∧ Away (fun b => b = R) w w' := by
  have hb := tkB_byt h.byt n
  have hn := num_lt (tkB l n) n hb (tkB_len l n (by omega)) (by omega)
  have hp : (2 : Int) ^ (8 * n) ≤ 2 ^ (8 * 1) := by
    have : 2 ^ (8 * n) ≤ 2 ^ (8 * 1) := Nat.pow_le_pow_right (by decide) (by omega)
    exact_mod_cast this
  have hw : IntKind.u8.wrap (num (tkB l n)) = num (tkB l n) := Int.emod_eq_of_lt hn.1 (Int.lt_of_lt_of_le hn.2 hp)
  have HW := Lib.hid hw
  clear hw hn hp
  go_enter Try.func91, Try.ntmps91
  go_wp2_with first | (go_at_call 92; refine (RdTake_any n h).mono ?_; rintro e1 w1 ⟨v1, rfl, hs1, h1, a1⟩) | (go_at_call 96; refine (Number_any _ v1 _ hs1 hb).mono ?_; rintro e2 w2 ⟨rfl, rfl⟩)
  go_ret
  exact ⟨by first | exact ret_int HW.out | rfl | exact congrArg _ (by rw [HW.out]), h1, a1⟩
theorem read_uint16_any {w : World} {R : Nat} {l : List Int} {e : Int} {C : Nat → Prop} (h : ReaderAt w R l e C) (n : Nat) (hn8 : n ≤ 2) :
    Calls Try.prog 93 #[.func (.func 92) #[.pointer (some ⟨R, 0, none⟩)] #[], .int .i64 n] w fun e' w' => e' = .returned (.int .u16 (num (tkB l n))) ∧ ReaderAt w' R (tkL l n) (tkE l n e) C ∧ Away (fun b => b = R) w w' := by
  have hb := tkB_byt h.byt n
  have hn := num_lt (tkB l n) n hb (tkB_len l n (by omega)) (by omega)
  have hp : (2 : Int) ^ (8 * n) ≤ 2 ^ (8 * 2) := by
    have : 2 ^ (8 * n) ≤ 2 ^ (8 * 2) := Nat.pow_le_pow_right (by decide) (by omega)
    exact_mod_cast this
  have hw : IntKind.u16.wrap (num (tkB l n)) = num (tkB l n) := Int.emod_eq_of_lt hn.1 (Int.lt_of_lt_of_le hn.2 hp)
  have HW := Lib.hid hw
  clear hw hn hp
  go_enter Try.func93, Try.ntmps93
  go_wp2_with first | (go_at_call 92; refine (RdTake_any n h).mono ?_; rintro e1 w1 ⟨v1, rfl, hs1, h1, a1⟩) | (go_at_call 96; refine (Number_any _ v1 _ hs1 hb).mono ?_; rintro e2 w2 ⟨rfl, rfl⟩)
  go_ret
  exact ⟨by first | exact ret_int HW.out | rfl | exact congrArg _ (by rw [HW.out]), h1, a1⟩
theorem read_uint32_any {w : World} {R : Nat} {l : List Int} {e : Int} {C : Nat → Prop} (h : ReaderAt w R l e C) (n : Nat) (hn8 : n ≤ 4) :
    Calls Try.prog 94 #[.func (.func 92) #[.pointer (some ⟨R, 0, none⟩)] #[], .int .i64 n] w fun e' w' => e' = .returned (.int .u32 (num (tkB l n))) ∧ ReaderAt w' R (tkL l n) (tkE l n e) C ∧ Away (fun b => b = R) w w' := by
  have hb := tkB_byt h.byt n
  have hn := num_lt (tkB l n) n hb (tkB_len l n (by omega)) (by omega)
  have hp : (2 : Int) ^ (8 * n) ≤ 2 ^ (8 * 4) := by
    have : 2 ^ (8 * n) ≤ 2 ^ (8 * 4) := Nat.pow_le_pow_right (by decide) (by omega)
    exact_mod_cast this
  have hw : IntKind.u32.wrap (num (tkB l n)) = num (tkB l n) := Int.emod_eq_of_lt hn.1 (Int.lt_of_lt_of_le hn.2 hp)
  have HW := Lib.hid hw
  clear hw hn hp
  go_enter Try.func94, Try.ntmps94
  go_wp2_with first | (go_at_call 92; refine (RdTake_any n h).mono ?_; rintro e1 w1 ⟨v1, rfl, hs1, h1, a1⟩) | (go_at_call 96; refine (Number_any _ v1 _ hs1 hb).mono ?_; rintro e2 w2 ⟨rfl, rfl⟩)
  go_ret
  exact ⟨by first | exact ret_int HW.out | rfl | exact congrArg _ (by rw [HW.out]), h1, a1⟩
theorem RdByte_any {w : World} {R : Nat} {l : List Int} {e : Int} {C : Nat → Prop} (h : ReaderAt w R l e C) :
    Calls Try.prog 59 #[.pointer (some ⟨R, 0, none⟩)] w fun e' w' => e' = .returned (.int .u8 (num (tkB l 1))) ∧ ReaderAt w' R (tkL l 1) (tkE l 1 e) C ∧ Away (fun b => b = R) w w' := by
  have hmf : ∀ (fn : Fn) (first cap : Array Value) (w : World), (Instr.makeFunc fn first cap).run Try.prog w = .ok (.func fn first cap) w := fun _ _ _ _ => rfl
  go_enter Try.func59, Try.ntmps59
  go_wp2_with (go_at_call 91; refine (read_byte_any h 1 (by decide)).mono ?_; rintro e1 w1 ⟨rfl, h1, a1⟩)
  go_ret
  exact ⟨rfl, h1, a1⟩
theorem RdShort_any {w : World} {R : Nat} {l : List Int} {e : Int} {C : Nat → Prop} (h : ReaderAt w R l e C) :
    Calls Try.prog 60 #[.pointer (some ⟨R, 0, none⟩)] w fun e' w' => e' = .returned (.int .u16 (num (tkB l 2))) ∧ ReaderAt w' R (tkL l 2) (tkE l 2 e) C ∧ Away (fun b => b = R) w w' := by
  have hmf : ∀ (fn : Fn) (first cap : Array Value) (w : World), (Instr.makeFunc fn first cap).run Try.prog w = .ok (.func fn first cap) w := fun _ _ _ _ => rfl
  go_enter Try.func60, Try.ntmps60
  go_wp2_with (go_at_call 93; refine (read_uint16_any h 2 (by decide)).mono ?_; rintro e1 w1 ⟨rfl, h1, a1⟩)
  go_ret
  exact ⟨rfl, h1, a1⟩
theorem RdNum_any {w : World} {R : Nat} {l : List Int} {e : Int} {C : Nat → Prop} (h : ReaderAt w R l e C) :
    Calls Try.prog 61 #[.pointer (some ⟨R, 0, none⟩)] w fun e' w' => e' = .returned (.int .u32 (num (tkB l 4))) ∧ ReaderAt w' R (tkL l 4) (tkE l 4 e) C ∧ Away (fun b => b = R) w w' := by
  have hmf : ∀ (fn : Fn) (first cap : Array Value) (w : World), (Instr.makeFunc fn first cap).run Try.prog w = .ok (.func fn first cap) w := fun _ _ _ _ => rfl
  go_enter Try.func61, Try.ntmps61
  go_wp2_with (go_at_call 94; refine (read_uint32_any h 4 (by decide)).mono ?_; rintro e1 w1 ⟨rfl, h1, a1⟩)
  go_ret
  exact ⟨rfl, h1, a1⟩
theorem tkB_len2 (l : List Int) (n : Int) : (tkB l n).length ≤ l.length := by
  unfold tkB; split
  · rw [List.length_take]; omega
  · simp
theorem owns_down {w : World} {base base' e size n : Nat} {v : Value} {xs : List Value} (h : w.ownsRow base e size v n xs) (hb : base' ≤ base) : w.ownsRow base' e size v n xs := by
  obtain ⟨h1, h2⟩ := h
  refine ⟨h1, ?_⟩
  rcases h2 with h | ⟨b, cap, cur, e1, hb', rest⟩
  · exact Or.inl h
  · exact Or.inr ⟨b, cap, cur, e1, Nat.le_trans hb hb', rest⟩
theorem RdRaw_any {w : World} {R : Nat} {l : List Int} {e : Int} (n : Int) {C : Nat → Prop} (h : ReaderAt w R l e C) :
    Calls Try.prog 63 #[.pointer (some ⟨R, 0, none⟩), .int .i64 n] w fun e' w' => ∃ v', e' = .returned v' ∧ w'.ownsRow w.heap.size 5 1 v' (tkB l n).length ((tkB l n).map (Value.int .u8)) ∧ ReaderAt w' R (tkL l n) (tkE l n e) C ∧ Away (fun b => b = R) w w' := by
  have hsm := tkB_len2 l n
  have h3 := h.small
  go_enter Try.func63, Try.ntmps63
  go_wp2_with first | (go_at_call 92; refine (RdTake_any n h).mono ?_; rintro e1 w1 ⟨v1, rfl, hs1, h1, a1⟩) | (go_at_call 41; refine (Clone_any v1 _ _ hs1 (by omega)).mono ?_; rintro e2 w2 ⟨v2, rfl, ho, hm⟩)
  go_ret
  exact ⟨_, rfl, owns_down ho a1.size, h1.more hm, a1.more hm⟩
theorem RdEnd_any {w : World} {R : Nat} {l : List Int} {e : Int} {C : Nat → Prop} (h : ReaderAt w R l e C) :
    Calls Try.prog 66 #[.pointer (some ⟨R, 0, none⟩)] w fun e' w' => e' = .returned (.int .i64 (if ¬ e = 0 then e else if 0 < l.length then 4 else 0)) ∧ w' = w := by
  obtain ⟨⟨v, h1, ⟨oa, cap, rfl, _⟩, _⟩, _, _, h5⟩ := h
  have c0 := blk_cell h1 0 (v := .slice oa l.length cap) rfl
  have c1 := blk_cell h1 1 (v := .int .i64 e) rfl
  clear h1
  by_cases he : e = 0
  · subst he
    by_cases hl : 0 < l.length
    · have hl2 : (0 : Int) < (l.length : Int) := by omega
      go_enter Try.func66, Try.ntmps66
      go_wp2
      go_ret
      simp [hl]
    · have hl2 : ¬ (0 : Int) < (l.length : Int) := by omega
      go_enter Try.func66, Try.ntmps66
      go_wp2
      go_ret
      simp [hl]
  · have hb : (e != 0) = true := by simpa using he
    go_enter Try.func66, Try.ntmps66
    go_wp2
    go_ret
    simp [he]
end Go.Proofs.Ytdgmmffedhikcaa
