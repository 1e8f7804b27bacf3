/- Merged from my texts LaneP, LaneM, LaneBI. -/
import Derived.Test.YtdgmmffedhikcaaMg8
import Derived.Test.YtdgmmffedhikcaaMg10
import Derived.Test.YtdgmmffedhikcaaMg0
import Derived.Lib.SliceRun
import Derived.Test.YtdgmmffedhikcaaRows
import Derived.Test.YtdgmmffedhikcaaMg9
import Derived.Lib.Hide
/- A lane's plain state, and what each call makes of it. -/
namespace Go.Proofs.Ytdgmmffedhikcaa
set_option linter.unusedSimpArgs false
set_option linter.unusedVariables false
open Go.RowKit
set_option maxRecDepth 100000

/-- A packet that comes. -/
structure ItS where
  id : Int
  layer : Int
  key : Bool
  pk : Pk
structure LnS where
  room : Nat
  A : List ItS
  B : List (ItS × Bool)
  C : List (Int × List Int)
  W : List (Int × List Int)
  wanted : Bool
  cur : Int
  tgt : Int
  rw : RwS
  most : Int
  row : Int
  gone : Bool
def newL (room : Nat) (most src sq st : Int) : LnS := ⟨room, [], [], [], [], false, 0, 0, ⟨src, sq, st, false, 0, 0⟩, most, 0, false⟩
def putL' (s : LnS) (x : ItS) : LnS × Int × Bool := if s.A.length < s.room then ({ s with A := s.A ++ [x] }, 0, false) else ({ s with A := s.A.tail ++ [x] }, (s.A.head?.map (·.id)).getD 0, true)
def putP (s : LnS) (x : ItS) : LnS × Int × Bool × Int :=
  if (thereL x.layer && rightH x.pk) = false then (s, 0, false, 1) else if s.gone then (s, 0, false, 7) else if s.wanted = false then (s, 0, false, 5) else ((putL' s x).1, (putL' s x).2.1, (putL' s x).2.2, 0)
/-- What becomes of a packet: the layer that flows, its fate, is it the first one. -/
def takeP (cur tgt layer : Int) (key : Bool) : Int × Int × Bool :=
  if layer = cur then (cur, 0, false) else if layer = tgt then (if key then (layer, 0, true) else (cur, 5, false)) else (cur, 4, false)
def mayP (s : LnS) (n : Int) : Bool := if n = 1 then decide (0 < s.A.length) && decide (¬ s.B.length = s.room) else if n = 2 then decide (0 < s.B.length) else if n = 3 then decide (0 < s.C.length) else false
def chooseP (s : LnS) : LnS × Int × Int × Bool :=
  if mayP s 1 = false then (s, 0, 0, false) else
  match s.A with
  | [] => (s, 0, 0, false)
  | x :: A => ({ s with A := A, cur := (takeP s.cur s.tgt x.layer x.key).1, B := if (takeP s.cur s.tgt x.layer x.key).2.1 = 0 then s.B ++ [(x, (takeP s.cur s.tgt x.layer x.key).2.2)] else s.B }, x.id, (takeP s.cur s.tgt x.layer x.key).2.1, true)
/-- A packet, rewritten. -/
def tellP (r : RwS) (p : Pk) (first : Bool) : Pk := { p with sq := r.sq, st := (p.st + shL r p.st first) % 4294967296, sc := r.src }
def stepP (r : RwS) (p : Pk) (first : Bool) : RwS := ⟨r.src, (r.sq + 1) % 65536, r.st, true, (p.st + shL r p.st first) % 4294967296, shL r p.st first⟩
def readyP (s : LnS) (o : Int × List Int) : LnS × Int × Bool := if s.C.length < s.room then ({ s with C := s.C ++ [o] }, 0, false) else ({ s with C := s.C.tail ++ [o] }, (s.C.head?.map (·.1)).getD 0, true)
def rewriteP (s : LnS) : LnS × Int × Bool × Bool :=
  match s.B with
  | [] => (s, 0, false, false)
  | (x, f) :: B => ((readyP { s with B := B, rw := stepP s.rw x.pk f } (x.id, pkB (tellP s.rw x.pk f))).1, (readyP { s with B := B, rw := stepP s.rw x.pk f } (x.id, pkB (tellP s.rw x.pk f))).2.1, (readyP { s with B := B, rw := stepP s.rw x.pk f } (x.id, pkB (tellP s.rw x.pk f))).2.2, true)
/-- The offer: how many were refused in a row, and is it gone by that. -/
def offerP (s : LnS) (acc : Bool) : Int × Bool × Bool := if s.gone then (s.row, true, false) else if acc then (0, false, false) else (s.row + 1, s.row + 1 == s.most, s.row + 1 == s.most)
def writeP (s : LnS) (acc : Bool) : LnS × Int × Int × Bool :=
  match s.C with
  | [] => (s, 0, 0, false)
  | o :: C =>
    if (offerP s acc).2.2 then ({ s with A := [], B := [], C := [], W := if acc then s.W ++ [o] else s.W, row := (offerP s acc).1, gone := (offerP s acc).2.1 }, o.1, 7, true)
    else ({ s with C := if acc then C else o :: C, W := if acc then s.W ++ [o] else s.W, row := (offerP s acc).1, gone := (offerP s acc).2.1 }, o.1, if acc then 1 else 0, true)
def wantP (s : LnS) (n : Int) : LnS × Int :=
  if thereL n = false then (s, 1) else if s.gone then (s, 7) else ({ s with wanted := true, cur := if s.wanted then s.cur else -1, tgt := n }, 0)

/-- Two lists, thing by thing. -/
def All2 {α β : Type} (p : α → β → Prop) : List α → List β → Prop
  | [], [] => True
  | a :: l, b :: m => p a b ∧ All2 p l m
  | _, _ => False
section
variable {α β : Type} {p p' : α → β → Prop}
theorem All2.len : ∀ {l : List α} {m : List β}, All2 p l m → l.length = m.length
  | [], [], _ => rfl
  | _ :: _, _ :: _, h => by simp [All2.len h.2]
  | [], _ :: _, h => h.elim
  | _ :: _, [], h => h.elim
theorem All2.mono (k : ∀ a b, p a b → p' a b) : ∀ {l : List α} {m : List β}, All2 p l m → All2 p' l m
  | [], [], _ => trivial
  | _ :: _, _ :: _, h => ⟨k _ _ h.1, All2.mono k h.2⟩
  | [], _ :: _, h => h.elim
  | _ :: _, [], h => h.elim
theorem All2.snoc : ∀ {l : List α} {m : List β} {a : α} {b : β}, All2 p l m → p a b → All2 p (l ++ [a]) (m ++ [b])
  | [], [], _, _, _, k => ⟨k, trivial⟩
  | _ :: _, _ :: _, _, _, h, k => ⟨h.1, All2.snoc h.2 k⟩
  | [], _ :: _, _, _, h, _ => h.elim
  | _ :: _, [], _, _, h, _ => h.elim
theorem All2.uncons {l : List α} {b : β} {m : List β} (h : All2 p l (b :: m)) : ∃ a l', l = a :: l' ∧ p a b ∧ All2 p l' m := by
  cases l with
  | nil => exact h.elim
  | cons a l' => exact ⟨a, l', rfl, h.1, h.2⟩
theorem All2.nil_r {l : List α} (h : All2 p l ([] : List β)) : l = [] := by
  cases l with
  | nil => rfl
  | cons a l' => exact h.elim
theorem All2.mem {l : List α} {m : List β} (h : All2 p l m) : ∀ a ∈ l, ∃ b ∈ m, p a b := by
  induction l generalizing m with
  | nil => intro a ha; simp at ha
  | cons c l ih =>
    cases m with
    | nil => exact h.elim
    | cons b m =>
      intro a ha
      rcases List.mem_cons.1 ha with rfl | ha
      · exact ⟨b, by simp, h.1⟩
      · obtain ⟨b', hb, hp⟩ := ih h.2 a ha
        exact ⟨b', by simp [hb], hp⟩
end

/-! How things read. -/
def itC (x : ItS) (vs ve vp : Value) : List Value := [.int .i64 x.id, .int .i64 x.layer, .bool x.key, .bool x.pk.mr, .int .u8 x.pk.ty, .int .u16 x.pk.sq, .int .u32 x.pk.st, .int .u32 x.pk.sc, vs, .bool x.pk.has, .int .u16 x.pk.pr, ve, vp]
def RIt : Reader ItS := fun w cs x => ∃ vs ve vp, cs = itC x vs ve vp ∧ PkS w vs ve vp x.pk ∧ PkOK x.pk ∧ rightH x.pk = true
def RCh : Reader (ItS × Bool) := fun w cs x => ∃ vs ve vp, cs = itC x.1 vs ve vp ++ [.bool x.2] ∧ PkS w vs ve vp x.1.pk ∧ PkOK x.1.pk ∧ rightH x.1.pk = true
def ROu : Reader (Int × List Int) := fun w cs o => ∃ v, cs = [.int .i64 o.1, v] ∧ SlI .u8 w v o.2 ∧ Byt o.2 ∧ o.2.length ≤ 200
theorem keepsIt : Keeps RIt := fun _ _ _ _ m ⟨vs, ve, vp, h1, h2, h3⟩ => ⟨vs, ve, vp, h1, h2.keep m, h3⟩
theorem keepsCh : Keeps RCh := fun _ _ _ _ m ⟨vs, ve, vp, h1, h2, h3⟩ => ⟨vs, ve, vp, h1, h2.keep m, h3⟩
theorem keepsOu : Keeps ROu := fun _ _ _ _ m ⟨v, h1, h2, h3⟩ => ⟨v, h1, h2.keep m, h3⟩
/-- What is chosen reads as what came. -/
theorem RdOff.chosen {D : Nat → Prop} {w : World} {c : List Value} {x : ItS} (f : Bool) (h : RdOff RIt D w c x) : RdOff RCh D w (c ++ [.bool f]) (x, f) := fun w' a => by
  obtain ⟨vs, ve, vp, rfl, h2, h3, h4⟩ := h w' a
  exact ⟨vs, ve, vp, rfl, h2, h3, h4⟩

/-! A ring whose things read as a list. -/
def RgR {α : Type} (n tr te : Nat) (R : Reader α) (D : Nat → Prop) (w : World) (r a room : Nat) (l : List α) : Prop :=
  ∃ f q ci co cd cg css, RgAt n tr te w r a room f q ci co cd cg css ∧ All2 (RdOff R D w) q l
section
variable {α : Type} {n tr te : Nat} {R : Reader α} {D D' : Nat → Prop} {w w' : World} {r a room : Nat} {l : List α}
theorem RgR.fit (h : RgR n tr te R D w r a room l) : l.length ≤ room ∧ 1 ≤ room ∧ room ≤ 8 ∧ r < w.heap.size ∧ a < w.heap.size := by
  obtain ⟨f, q, ci, co, cd, cg, css, h1, h2⟩ := h
  have := h1.fits
  have := h2.len
  have := h1.pos
  exact ⟨by omega, by omega, by omega, blk_lt h1.ring, blk_lt h1.row⟩
/-- Other blocks are written. -/
theorem RgR.step {S : Nat → Prop} (h : RgR n tr te R D w r a room l) (k : Away S w w') (hr : ¬ S r) (ha : ¬ S a) (hD : ∀ b, S b → D b) (hD' : ∀ b, D' b → D b ∨ w'.heap.size ≤ b) : RgR n tr te R D' w' r a room l := by
  obtain ⟨f, q, ci, co, cd, cg, css, h1, h2⟩ := h
  exact ⟨f, q, ci, co, cd, cg, css, h1.away k hr ha, h2.mono fun c y hy => (hy.step (k.mono hD)).other hD'⟩
end
end Go.Proofs.Ytdgmmffedhikcaa
/- Contracts of slices.Clone, of integers. (printed by gen_laneM.py) -/
namespace Go.Proofs.Ytdgmmffedhikcaa
set_option linter.unusedSimpArgs false
set_option linter.unusedVariables false
open Go.RowKit
set_option maxRecDepth 100000

set_option maxHeartbeats 1000000 in
theorem cloneB (v : Value) (l : List Int) (w : World) (h : SlI .u8 w v l) (hl : l.length ≤ 1000000) :
    Calls Try.prog 41 #[v] w fun e w' => (∃ v', e = .returned v' ∧ w'.ownsRow w.heap.size 5 1 v' l.length (l.map (Value.int .u8))) ∧ More w w' := by
  obtain ⟨i0, hi, hz0, hz1, hz2⟩ := info_parts (P := Try.prog) (e := 5) (z := .int .u8 0) (size := 1) (bytes := 1) (by kernel_rfl)
  have HS := Lib.hid h
  obtain ⟨oa, cap, rfl, h2, h3, h4, h5, h6⟩ := h
  cases oa with
  | none =>
    obtain rfl : cap = 0 := h6 rfl
    obtain rfl : l = [] := List.eq_nil_of_length_eq_zero (by omega)
    clear HS h2 h3 h4 h5 h6
    have hq := fun w => Lib.run_eql_slice_nil (P := Try.prog) w 37 5 none 0 0 0 0 Try.underlying37
    go_enter Try.func41, Try.ntmps41
    go_wp2
    go_ret
    exact ⟨⟨_, rfl, World.ownsRow_nil w _ _ _⟩, More.refl _⟩
  | some ad =>
    clear h2 h3 h4 h5 h6
    have hown : (w.alloc (.cells #[] 5)).ownsRow w.heap.size 5 1 (.slice (some ⟨w.heap.size, 0, none⟩) 0 0) ([] : List Int).length (([] : List Int).map (Value.int .u8)) := World.ownsRow_lit (e := 5) (size := 1) (base := w.heap.size) w #[] 0 (Nat.le_refl _) (by unfold maxLen; omega) rfl
    have HO := Lib.hid hown
    clear hown
    have hq := fun w => Lib.run_eql_slice_nil (P := Try.prog) w 37 5 (some ad) l.length cap 0 0 Try.underlying37
    go_enter Try.func41, Try.ntmps41
    go_wp2_with (at_builtin; refine wpList_append_sl _ rfl (.tmp 5) (.tmp 6) 37 rfl w.heap.size 5 i0 (.int .u8 0) 1 Try.underlying37 hi hz0 hz1 hz2 rfl _ .u8 [] rfl HO.out _ l rfl (HS.out.keep (More.alloc _ _)) (by simp; omega) (by decide) (More.alloc w _).size ?_; intro v2 w2 ho2 hg2; have O2 := Lib.hid ho2; have G2 : Hid (Away (fun b => (Value.slice (some ⟨w.heap.size, 0, none⟩) 0 0).ownBlock = some b) (w.alloc (.cells #[] 5)) w2) := Lib.hid (Away.of_grown hg2); clear ho2 hg2)
    go_ret
    refine ⟨⟨_, rfl, by simpa using O2.out⟩, ?_⟩
    exact ((Away.of_more (S := fun b => b = w.heap.size) (More.alloc w _)).trans (G2.out.mono fun b hb => by injection hb with e; exact e.symm)).to_more (More.refl _) (fun k e => by rw [e]; exact Nat.le_refl _)

set_option maxHeartbeats 1000000 in
theorem cloneU (v : Value) (l : List Int) (w : World) (h : SlI .u32 w v l) (hl : l.length ≤ 1000000) :
    Calls Try.prog 40 #[v] w fun e w' => (∃ v', e = .returned v' ∧ w'.ownsRow w.heap.size 22 1 v' l.length (l.map (Value.int .u32))) ∧ More w w' := by
  obtain ⟨i0, hi, hz0, hz1, hz2⟩ := info_parts (P := Try.prog) (e := 22) (z := .int .u32 0) (size := 1) (bytes := 4) (by kernel_rfl)
  have HS := Lib.hid h
  obtain ⟨oa, cap, rfl, h2, h3, h4, h5, h6⟩ := h
  cases oa with
  | none =>
    obtain rfl : cap = 0 := h6 rfl
    obtain rfl : l = [] := List.eq_nil_of_length_eq_zero (by omega)
    clear HS h2 h3 h4 h5 h6
    have hq := fun w => Lib.run_eql_slice_nil (P := Try.prog) w 36 22 none 0 0 0 0 Try.underlying36
    go_enter Try.func40, Try.ntmps40
    go_wp2
    go_ret
    exact ⟨⟨_, rfl, World.ownsRow_nil w _ _ _⟩, More.refl _⟩
  | some ad =>
    clear h2 h3 h4 h5 h6
    have hown : (w.alloc (.cells #[] 22)).ownsRow w.heap.size 22 1 (.slice (some ⟨w.heap.size, 0, none⟩) 0 0) ([] : List Int).length (([] : List Int).map (Value.int .u32)) := World.ownsRow_lit (e := 22) (size := 1) (base := w.heap.size) w #[] 0 (Nat.le_refl _) (by unfold maxLen; omega) rfl
    have HO := Lib.hid hown
    clear hown
    have hq := fun w => Lib.run_eql_slice_nil (P := Try.prog) w 36 22 (some ad) l.length cap 0 0 Try.underlying36
    go_enter Try.func40, Try.ntmps40
    go_wp2_with (at_builtin; refine wpList_append_sl _ rfl (.tmp 5) (.tmp 6) 36 rfl w.heap.size 22 i0 (.int .u32 0) 4 Try.underlying36 hi hz0 hz1 hz2 rfl _ .u32 [] rfl HO.out _ l rfl (HS.out.keep (More.alloc _ _)) (by simp; omega) (by decide) (More.alloc w _).size ?_; intro v2 w2 ho2 hg2; have O2 := Lib.hid ho2; have G2 : Hid (Away (fun b => (Value.slice (some ⟨w.heap.size, 0, none⟩) 0 0).ownBlock = some b) (w.alloc (.cells #[] 22)) w2) := Lib.hid (Away.of_grown hg2); clear ho2 hg2)
    go_ret
    refine ⟨⟨_, rfl, by simpa using O2.out⟩, ?_⟩
    exact ((Away.of_more (S := fun b => b = w.heap.size) (More.alloc w _)).trans (G2.out.mono fun b hb => by injection hb with e; exact e.symm)).to_more (More.refl _) (fun k e => by rw [e]; exact Nat.le_refl _)
end Go.Proofs.Ytdgmmffedhikcaa
/- Contracts of package ring at 41. (printed by gen_laneB.py) -/
namespace Go.Proofs.Ytdgmmffedhikcaa
set_option linter.unusedSimpArgs false
set_option linter.unusedVariables false
open Go.RowKit
set_option maxRecDepth 100000

theorem zeroI (w : World) : (zeroValue 41).run Try.prog w = .ok (.agg #[.int .i64 0, .int .i64 0, .bool false, .bool false, .int .u8 0, .int .u16 0, .int .u32 0, .int .u32 0, .slice none 0 0, .bool false, .int .u16 0, .slice none 0 0, .slice none 0 0]) w := by kernel_rfl
theorem zsI : (Builtin.zeroCells (Value.agg #[.int .i64 0, .int .i64 0, .bool false, .bool false, .int .u8 0, .int .u16 0, .int .u32 0, .int .u32 0, .slice none 0 0, .bool false, .int .u16 0, .slice none 0 0, .slice none 0 0]).cells 1).toList = [.int .i64 0, .int .i64 0, .bool false, .bool false, .int .u8 0, .int .u16 0, .int .u32 0, .int .u32 0, .slice none 0 0, .bool false, .int .u16 0, .slice none 0 0, .slice none 0 0] := by kernel_rfl
theorem zokI : ([.int .i64 0, .int .i64 0, .bool false, .bool false, .int .u8 0, .int .u16 0, .int .u32 0, .int .u32 0, .slice none 0 0, .bool false, .int .u16 0, .slice none 0 0, .slice none 0 0] : List Value).length = 13 ∧ ∀ u ∈ ([.int .i64 0, .int .i64 0, .bool false, .bool false, .int .u8 0, .int .u16 0, .int .u32 0, .int .u32 0, .slice none 0 0, .bool false, .int .u16 0, .slice none 0 0, .slice none 0 0] : List Value), u.oneCell' = true := ⟨rfl, by simp [Value.oneCell']⟩
set_option maxHeartbeats 4000000 in
theorem takeI (w : World) (R A room first : Nat) (c : List Value) (T : List (List Value)) (ci co cd cg : Int) (css : List (List Value)) (h : RgAt 13 148 41 w R A room first (c :: T) ci co cd cg css) :
    Calls Try.prog 69 #[.pointer (some ⟨R, 0, none⟩)] w fun e w' => e = .returned (.agg c.toArray) ∧ RgAt 13 148 41 w' R A room ((first + 1) % room) T ci co cd cg (css.set first [.int .i64 0, .int .i64 0, .bool false, .bool false, .int .u8 0, .int .u16 0, .int .u32 0, .int .u32 0, .slice none 0 0, .bool false, .int .u16 0, .slice none 0 0, .slice none 0 0]) ∧ Away (RgB R A) w w' := by
  have H0 := Lib.hid h
  have hc := h.ofHead
  have hcs : c.toArray.size = 13 := by simpa using hc.1
  have hf := h.fst
  have hfi : (first : Int) < (room : Int) := by have := h.fst; omega
  have hfi0 : 0 ≤ (first : Int) := by omega
  have hp1 := h.pos.1
  have hp2 := h.pos.2
  have hql : ((c :: T).length : Int) ≤ 8 := by have := h.fits; have := h.pos.2; omega
  clear h
  go_enter Try.func69, Try.ntmps69
  go_wp2
  obtain ⟨W1, hW1⟩ : ∃ W1, w.alloc (.cells #[.int .i64 0, .int .i64 0, .bool false, .bool false, .int .u8 0, .int .u16 0, .int .u32 0, .int .u32 0, .slice none 0 0, .bool false, .int .u16 0, .slice none 0 0, .slice none 0 0] 41) = W1 := ⟨_, rfl⟩
  have M1 : Hid (More w W1) := Lib.hid (by rw [← hW1]; exact More.alloc _ _)
  have H1 : Hid (RgAt 13 148 41 W1 R A room first (c :: T) ci co cd cg css) := Lib.hid (H0.out.more M1.out)
  have B1 : Hid (W1.heap[w.heap.size]? = some (.cells #[.int .i64 0, .int .i64 0, .bool false, .bool false, .int .u8 0, .int .u16 0, .int .u32 0, .int .u32 0, .slice none 0 0, .bool false, .int .u16 0, .slice none 0 0, .slice none 0 0] 41 (0, 0))) := Lib.hid (by rw [← hW1]; exact blk_new w _)
  have hRw : R < w.heap.size := blk_lt H0.out.ring
  have hAw : A < w.heap.size := blk_lt H0.out.row
  rw [hW1]
  have hws : w.heap.size < W1.heap.size := blk_lt B1.out
  generalize hrc : w.heap.size = rc at *
  clear hW1
  have L0 : ∀ x : Later W1, x.w'.cell? ⟨R, 0, none⟩ = some (.slice (some ⟨A, 0, none⟩) room room) := fun x => x.cell (blk_lt H1.out.ring) (blk_cell H1.out.ring 0 rfl)
  have L1 : ∀ x : Later W1, x.w'.cell? ⟨R, 1, none⟩ = some (.int .i64 first) := fun x => x.cell (blk_lt H1.out.ring) (blk_cell H1.out.ring 1 rfl)
  refine wp_region_num W1 11 [(0, false), (1, false), (2, false), (3, false), (4, false), (5, false), (6, false), (7, false), (8, false), (9, false), (10, true), (11, true)] (by kernel_rfl) (by kernel_rfl) ?_
  iterate 9 (refine num_quiet rfl rfl (later_mk (by repeat (first | exact More.refl _ | assumption | refine More.dr ?_ _ | refine More.al ?_ _ | refine More.st ?_ (by simp) _))) ?_; intro K hK; go_big_quiet_op; go_big_quiet_on)
  have HG : ∀ x : Later W1, x.w'.rangeAt A (first * 13) c := fun x => by have := (H1.out.more x.h).range hf; rw [H1.out.head] at this; exact this
  refine num_load_mid rfl rfl (later_mk (by repeat (first | exact More.refl _ | assumption | refine More.dr ?_ _ | refine More.al ?_ _ | refine More.st ?_ (by simp) _))) 41 (.tmp 12) rfl A (first * 13) rfl c _ (fun w' hx => by obtain ⟨x, rfl⟩ := hx; exact HG x) Try.underlying41 rfl (by rw [hc.1]; kernel_rfl) ?_
  intro K hK
  go_simp
  refine hK _ ?_
  clear hK K
  (refine num_next rfl rfl ?_; intro K hK; unfold loud; go_simp)
  refine ⟨later_mk (by repeat (first | exact More.refl _ | assumption | refine More.dr ?_ _ | refine More.al ?_ _ | refine More.st ?_ (by simp) _)), hK _ _ ?_⟩
  clear hK K
  refine num_end rfl rfl (by decide) ?_
  intro K hK
  refine loud_store_all 41 (.tmp 3) (.tmp 13) rfl W1.heap.size 41 _ c.toArray rfl rfl (blk_new _ _) (by rw [hcs]; kernel_rfl) (by rw [hcs]; rfl) (all_oneCell_toArray hc.2) ?_
  refine ⟨trivial, ?_⟩
  go_simp
  refine hK _ _ ?_
  clear hK K
  refine num_nil ?_
  obtain ⟨W2, hW2⟩ : ∃ W2, ((W1.drewN 1).alloc (.cells #[.int .i64 0, .int .i64 0, .bool false, .bool false, .int .u8 0, .int .u16 0, .int .u32 0, .int .u32 0, .slice none 0 0, .bool false, .int .u16 0, .slice none 0 0, .slice none 0 0] 41)).setRow W1.heap.size c.toArray = W2 := ⟨_, rfl⟩
  have X2 : Hid (W2.heap[W1.heap.size]? = some (.cells c.toArray 41 (0, 0))) := Lib.hid (by rw [← hW2]; exact lnBlk (blk_new _ _) _)
  have M2 : Hid (More W1 W2) := Lib.hid (by rw [← hW2]; exact (lnAway _ _ _).to_more (((More.refl W1).dr 1).al _) (fun k e => by rw [e]; exact Nat.le_refl _))
  have H2 := Lib.hid (H1.out.more M2.out)
  have B2 := Lib.hid (blk_more M2.out B1.out)
  have hRW : R < W1.heap.size := Nat.lt_of_lt_of_le (by omega) (Nat.le_of_lt hws)
  have hAW : A < W1.heap.size := Nat.lt_of_lt_of_le (by omega) (Nat.le_of_lt hws)
  rw [hW2]
  generalize W1.heap.size = xc at *
  clear hW2 L0 L1 HG B1 H1
  go_wp2_with fail
  have L0 : ∀ x : LaterS (fun b => b = A) W2, x.w'.cell? ⟨R, 0, none⟩ = some (.slice (some ⟨A, 0, none⟩) room room) := fun x => x.cell (blk_lt H2.out.ring) H2.out.ne (blk_cell H2.out.ring 0 rfl)
  have L1 : ∀ x : LaterS (fun b => b = A) W2, x.w'.cell? ⟨R, 1, none⟩ = some (.int .i64 first) := fun x => x.cell (blk_lt H2.out.ring) H2.out.ne (blk_cell H2.out.ring 1 rfl)
  refine wp_region_numS (fun b => b = A) W2 15 [(0, false), (1, false), (2, false), (3, false), (4, false), (5, false), (6, false), (7, false), (8, false), (9, false), (10, false), (11, false), (12, false), (13, false), (14, true)] (by kernel_rfl) (by kernel_rfl) ?_
  iterate 14 (refine num_quiet rfl rfl (laterS_mk (by repeat (first | exact Away.refl _ _ | assumption | refine Away.drewN ?_ _ | refine Away.set ?_ (by first | rfl | exact Or.inl rfl | exact Or.inr rfl) _))) ?_; intro K hK; go_big_quiet_op; go_big_quiet_on)
  refine num_next rfl rfl ?_
  intro K hK
  have hcl := run_clear_in (P := Try.prog) (W2.drewN 1) 58 0 41 _ [.int .i64 0, .int .i64 0, .bool false, .bool false, .int .u8 0, .int .u16 0, .int .u32 0, .int .u32 0, .slice none 0 0, .bool false, .int .u16 0, .slice none 0 0, .slice none 0 0] Try.underlying58 zeroI zsI A (first * 13) (room - first) css.flatten.toArray (blk_drewN H2.out.row 1) (by rw [H2.out.size]; have := Nat.mul_le_mul_right 13 (show first + 1 ≤ room by omega); simp; omega) zokI.2
  simp only [List.toList_toArray] at hcl
  unfold loud
  go_simp
  refine ⟨laterS_mk (((Away.refl (fun b => b = A) W2).drewN 1).row (g := A) rfl _), hK _ _ ?_⟩
  clear hK K hcl L0 L1
  refine num_nil ?_
  obtain ⟨W3, hW3⟩ : ∃ W3, (W2.drewN 1).setRow A (lnPut css.flatten (first * 13) [.int .i64 0, .int .i64 0, .bool false, .bool false, .int .u8 0, .int .u16 0, .int .u32 0, .int .u32 0, .slice none 0 0, .bool false, .int .u16 0, .slice none 0 0, .slice none 0 0]).toArray = W3 := ⟨_, rfl⟩
  have A3 : Hid (Away (RgB R A) W2 W3) := Lib.hid (by rw [← hW3]; exact ((Away.refl _ _).drewN 1).row (Or.inr rfl) _)
  have G3 : Hid (W3.heap[R]? = some (.cells (rgCells A room first (c :: T).length ci co cd cg) 148 (0, 0))) := Lib.hid (by rw [← hW3]; exact lnOther (blk_drewN H2.out.ring 1) _ H2.out.ne)
  have P3 : Hid (W3.heap[A]? = some (.cells (css.set first [.int .i64 0, .int .i64 0, .bool false, .bool false, .int .u8 0, .int .u16 0, .int .u32 0, .int .u32 0, .slice none 0 0, .bool false, .int .u16 0, .slice none 0 0, .slice none 0 0]).flatten.toArray 41 (0, 0))) := Lib.hid (by rw [← hW3, ← lnSet css first _ H2.out.cl zokI.1 (by rw [H2.out.len]; exact hf)]; exact lnBlk (blk_drewN H2.out.row 1) _)
  have X3 : Hid (W3.heap[xc]? = some (.cells c.toArray 41 (0, 0))) := Lib.hid (by rw [← hW3]; exact lnOther (blk_drewN X2.out 1) _ (by omega))
  have B3 : Hid (W3.heap[rc]? = some (.cells #[.int .i64 0, .int .i64 0, .bool false, .bool false, .int .u8 0, .int .u16 0, .int .u32 0, .int .u32 0, .slice none 0 0, .bool false, .int .u16 0, .slice none 0 0, .slice none 0 0] 41 (0, 0))) := Lib.hid (by rw [← hW3]; exact lnOther (blk_drewN B2.out 1) _ (by omega))
  rw [hW3]
  clear hW3 X2 B2
  go_wp2_with fail
  have L0 : ∀ x : Later W3, x.w'.cell? ⟨R, 0, none⟩ = some (.slice (some ⟨A, 0, none⟩) room room) := fun x => x.cell (blk_lt G3.out) (blk_cell G3.out 0 rfl)
  have L1 : ∀ x : Later W3, x.w'.cell? ⟨R, 1, none⟩ = some (.int .i64 first) := fun x => x.cell (blk_lt G3.out) (blk_cell G3.out 1 rfl)
  have fr1 : W3.frozen? ⟨R, 1, none⟩ = false := blk_free G3.out 1
  have r1 : W3.cell? ⟨R, 1, none⟩ = some (.int .i64 first) := blk_cell G3.out 1 rfl
  refine wp_region_num W3 14 [(0, false), (1, false), (2, false), (3, false), (4, false), (5, false), (6, false), (7, false), (8, false), (9, false), (10, false), (11, false), (12, true), (13, false), (14, true)] (by kernel_rfl) (by kernel_rfl) ?_
  iterate 12 (refine num_quiet rfl rfl (later_mk (by repeat (first | exact More.refl _ | assumption | refine More.dr ?_ _ | refine More.al ?_ _ | refine More.st ?_ (by simp) _))) ?_; intro K hK; go_big_quiet_op; go_big_quiet_on)
  (refine num_next rfl rfl ?_; intro K hK; unfold loud; go_simp)
  refine ⟨later_mk (by repeat (first | exact More.refl _ | assumption | refine More.dr ?_ _ | refine More.al ?_ _ | refine More.st ?_ (by simp) _)), hK _ _ ?_⟩
  clear hK K
  iterate 1 (refine num_quiet rfl rfl (later_mk (by repeat (first | exact More.refl _ | assumption | refine More.dr ?_ _ | refine More.al ?_ _ | refine More.st ?_ (by simp) _))) ?_; intro K hK; go_big_quiet_op; go_big_quiet_on)
  (refine num_end rfl rfl (by decide) ?_; intro K hK; unfold loud; go_simp)
  refine hK _ _ ?_
  clear hK K L0 L1
  refine num_nil ?_
  have e1 : ((first : Int) + 1) % (room : Int) = (((first + 1) % room : Nat) : Int) := by rw [Int.natCast_emod]; rfl
  rw [e1]
  obtain ⟨W4, hW4⟩ : ∃ W4, (W3.drewN 1).setCell ⟨R, 1, none⟩ (.int .i64 ((first + 1) % room : Nat)) = W4 := ⟨_, rfl⟩
  have A4 : Hid (Away (RgB R A) W2 W4) := Lib.hid (by rw [← hW4]; exact (A3.out.drewN 1).set (Or.inl rfl) _)
  have G4 : Hid (W4.heap[R]? = some (.cells (rgCells A room ((first + 1) % room) (c :: T).length ci co cd cg) 148 (0, 0))) := Lib.hid (by rw [← hW4]; exact blk_eq (blk_set (blk_drewN G3.out 1) 1 _) rfl)
  have P4 : Hid (W4.heap[A]? = some (.cells (css.set first [.int .i64 0, .int .i64 0, .bool false, .bool false, .int .u8 0, .int .u16 0, .int .u32 0, .int .u32 0, .slice none 0 0, .bool false, .int .u16 0, .slice none 0 0, .slice none 0 0]).flatten.toArray 41 (0, 0))) := Lib.hid (by rw [← hW4]; exact blk_other (blk_drewN P3.out 1) _ _ (Ne.symm H2.out.ne))
  have X4 : Hid (W4.heap[xc]? = some (.cells c.toArray 41 (0, 0))) := Lib.hid (by rw [← hW4]; exact blk_other (blk_drewN X3.out 1) _ _ (by show xc ≠ R; omega))
  have B4 : Hid (W4.heap[rc]? = some (.cells #[.int .i64 0, .int .i64 0, .bool false, .bool false, .int .u8 0, .int .u16 0, .int .u32 0, .int .u32 0, .slice none 0 0, .bool false, .int .u16 0, .slice none 0 0, .slice none 0 0] 41 (0, 0))) := Lib.hid (by rw [← hW4]; exact blk_other (blk_drewN B3.out 1) _ _ (by show rc ≠ R; omega))
  rw [hW4]
  clear hW4 A3 G3 P3 X3 B3 fr1 r1 e1
  have r2 : W4.cell? ⟨R, 2, none⟩ = some (.int .i64 (c :: T).length) := blk_cell G4.out 2 rfl
  have fr2 : W4.frozen? ⟨R, 2, none⟩ = false := blk_free G4.out 2
  have eT : (((c :: T).length : Nat) : Int) - 1 = (T.length : Int) := by simp
  go_wp2_with (first | (refine lnLoad rfl 41 (.tmp 3) rfl xc 41 c.toArray _ (blk_other X4.out _ _ (by show xc ≠ R; omega)) rfl Try.underlying41 rfl (by rw [hcs]; kernel_rfl) ?_) | (refine lnStore rfl 41 (.tmp 2) (.tmp 49) rfl rc 41 _ c.toArray (blk_other B4.out _ _ (by show rc ≠ R; omega)) rfl rfl (by rw [hcs]; kernel_rfl) (by rw [hcs]; rfl) (all_oneCell_toArray hc.2) ?_))
  have hne : R ≠ A := H2.out.ne
  refine bodyPost_ret (v := .agg c.toArray) (results_cell_row Try.results69 _ _ rc 41 c.toArray (0, 0) _ rfl (lnBlk (blk_other B4.out _ _ (by show rc ≠ R; omega)) _) Try.underlying41 rfl (by rw [hcs]; kernel_rfl)) rfl ?_
  refine ⟨rfl, ?_, ?_⟩
  · exact H2.out.took zokI (lnOther (blk_eq (blk_set G4.out 2 _) (by simp [rgCells])) _ (by omega)) (lnOther (blk_other P4.out _ _ (Ne.symm hne)) _ (by omega))
  · exact (((Away.of_more (M1.out.trans M2.out)).trans A4.out).set (Or.inl rfl) _).rowNew (by omega) _
end Go.Proofs.Ytdgmmffedhikcaa
