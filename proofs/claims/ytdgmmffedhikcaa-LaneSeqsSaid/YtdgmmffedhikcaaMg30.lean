/- Merged from my texts LaneLp, LaneLw, LanePt, LaneWp. -/
import Derived.Test.YtdgmmffedhikcaaMg29
/- What acts make of a lane's plain state. -/
namespace Go.Proofs.Ytdgmmffedhikcaa
set_option linter.unusedSimpArgs false
set_option linter.unusedVariables false
open Go.RowKit
set_option maxRecDepth 100000

section
variable (s : LnS)
theorem putP_eq (x : ItS) : (putP s x).1 = s ∧ (putP s x).2.2.2 ≠ 0 ∧ (putP s x).2.2.1 = false ∨ s.gone = false ∧ s.wanted = true ∧ rightH x.pk = true ∧ thereL x.layer = true ∧ (putP s x).2.2.2 = 0 ∧ (putP s x).1 = { s with A := if s.A.length < s.room then s.A ++ [x] else s.A.tail ++ [x] } ∧ (putP s x).2.1 = (if s.A.length < s.room then 0 else (s.A.head?.map (·.id)).getD 0) ∧ (putP s x).2.2.1 = decide (¬ s.A.length < s.room) := by
  unfold putP
  split
  · exact Or.inl ⟨rfl, by simp, rfl⟩
  · rename_i h1
    have h1 : thereL x.layer = true ∧ rightH x.pk = true := by simpa using h1
    split
    · exact Or.inl ⟨rfl, by simp, rfl⟩
    · rename_i h2
      split
      · exact Or.inl ⟨rfl, by simp, rfl⟩
      · rename_i h3
        refine Or.inr ⟨by simpa using h2, by simpa using h3, h1.2, h1.1, rfl, ?_, ?_, ?_⟩
        all_goals (unfold putL'; split <;> rename_i h4 <;> simp [h4])
theorem chooseP_eq : (mayP s 1 = false ∧ chooseP s = (s, 0, 0, false)) ∨ (mayP s 1 = true ∧ ∃ x A, s.A = x :: A ∧ s.B.length ≠ s.room ∧ chooseP s = ({ s with A := A, cur := (takeP s.cur s.tgt x.layer x.key).1, B := if (takeP s.cur s.tgt x.layer x.key).2.1 = 0 then s.B ++ [(x, (takeP s.cur s.tgt x.layer x.key).2.2)] else s.B }, x.id, (takeP s.cur s.tgt x.layer x.key).2.1, true)) := by
  cases hm : mayP s 1 with
  | false => exact Or.inl ⟨rfl, by unfold chooseP; rw [if_pos hm]⟩
  | true =>
    have h1 : (decide (0 < s.A.length) && decide (¬ s.B.length = s.room)) = true := hm
    rw [Bool.and_eq_true] at h1
    cases hA : s.A with
    | nil => rw [hA] at h1; simp at h1
    | cons x A => exact Or.inr ⟨rfl, x, A, rfl, by simpa using h1.2, by unfold chooseP; rw [if_neg (by rw [hm]; decide), hA]⟩
theorem rewriteP_eq : (s.B = [] ∧ rewriteP s = (s, 0, false, false)) ∨ (∃ x f B, s.B = (x, f) :: B ∧ rewriteP s = ({ s with B := B, rw := stepP s.rw x.pk f, C := if s.C.length < s.room then s.C ++ [(x.id, pkB (tellP s.rw x.pk f))] else s.C.tail ++ [(x.id, pkB (tellP s.rw x.pk f))] }, (if s.C.length < s.room then 0 else (s.C.head?.map (·.1)).getD 0), decide (¬ s.C.length < s.room), true)) := by
  cases hB : s.B with
  | nil => exact Or.inl ⟨rfl, by unfold rewriteP; rw [hB]⟩
  | cons y B =>
    obtain ⟨x, f⟩ := y
    refine Or.inr ⟨x, f, B, rfl, ?_⟩
    unfold rewriteP readyP
    rw [hB]
    by_cases h : s.C.length < s.room <;> simp [h]
theorem writeP_eq (acc : Bool) : (s.C = [] ∧ writeP s acc = (s, 0, 0, false)) ∨ (∃ o C, s.C = o :: C ∧ ((offerP s acc).2.2 = false ∧ writeP s acc = ({ s with C := if acc then C else o :: C, W := if acc then s.W ++ [o] else s.W, row := (offerP s acc).1, gone := (offerP s acc).2.1 }, o.1, (if acc then 1 else 0), true) ∨
    acc = false ∧ s.gone = false ∧ (offerP s acc).2.1 = true ∧ writeP s acc = ({ s with A := [], B := [], C := [], row := (offerP s acc).1, gone := (offerP s acc).2.1 }, o.1, 7, true))) := by
  cases hC : s.C with
  | nil => exact Or.inl ⟨rfl, by unfold writeP; rw [hC]⟩
  | cons o C =>
    refine Or.inr ⟨o, C, rfl, ?_⟩
    cases hb : (offerP s acc).2.2 with
    | false => exact Or.inl ⟨rfl, by unfold writeP; rw [hC]; simp [hb]⟩
    | true =>
      have hg : s.gone = false := by
        cases hg : s.gone with
        | false => rfl
        | true => unfold offerP at hb; rw [if_pos hg] at hb; simp at hb
      have ha : acc = false := by
        cases acc with
        | false => rfl
        | true => unfold offerP at hb; rw [if_neg (by rw [hg]; decide), if_pos rfl] at hb; simp at hb
      subst ha
      have h3 : (offerP s false).2.1 = (offerP s false).2.2 := by unfold offerP; rw [if_neg (by rw [hg]; decide)]; rfl
      exact Or.inr ⟨rfl, hg, by rw [h3]; exact hb, by unfold writeP; rw [hC]; simp [hb]⟩
theorem wantP_eq (n : Int) : (wantP s n).1 = s ∨ s.gone = false ∧ (wantP s n).1 = { s with wanted := true, cur := if s.wanted then s.cur else -1, tgt := n } := by
  unfold wantP
  split
  · exact Or.inl rfl
  · split
    · exact Or.inl rfl
    · rename_i h
      exact Or.inr ⟨by simpa using h, rfl⟩
/-- Act by act: room stays, and one is written at most. -/
theorem putP_frame (x : ItS) : (putP s x).1.room = s.room ∧ (putP s x).1.W = s.W := by
  rcases putP_eq s x with ⟨e, _⟩ | ⟨_, _, _, _, _, e, _⟩ <;> rw [e] <;> exact ⟨rfl, rfl⟩
theorem chooseP_frame : (chooseP s).1.room = s.room ∧ (chooseP s).1.W = s.W := by
  rcases chooseP_eq s with ⟨_, e⟩ | ⟨_, x, A, _, _, e⟩ <;> rw [e] <;> exact ⟨rfl, rfl⟩
theorem rewriteP_frame : (rewriteP s).1.room = s.room ∧ (rewriteP s).1.W = s.W := by
  rcases rewriteP_eq s with ⟨_, e⟩ | ⟨x, f, B, _, e⟩ <;> rw [e] <;> exact ⟨rfl, rfl⟩
theorem writeP_frame (acc : Bool) : (writeP s acc).1.room = s.room ∧ (writeP s acc).1.W.length ≤ s.W.length + 1 := by
  rcases writeP_eq s acc with ⟨_, e⟩ | ⟨o, C, _, ⟨_, e⟩ | ⟨_, _, _, e⟩⟩ <;> rw [e]
  · exact ⟨rfl, by simp⟩
  · refine ⟨rfl, ?_⟩
    cases acc <;> simp
  · exact ⟨rfl, by simp⟩
theorem wantP_frame (n : Int) : (wantP s n).1.room = s.room ∧ (wantP s n).1.W = s.W := by
  rcases wantP_eq s n with e | ⟨_, e⟩ <;> rw [e] <;> exact ⟨rfl, rfl⟩
theorem doP_frame (a : ActS) (id : Int) : (doP s a id).1.room = s.room ∧ (doP s a id).1.W.length ≤ s.W.length + 1 := by
  unfold doP
  split
  · have := putP_frame s { a.x with id := id }; exact ⟨this.1, by rw [this.2]; omega⟩
  · split
    · have := chooseP_frame s; exact ⟨this.1, by rw [this.2]; omega⟩
    · split
      · have := rewriteP_frame s; exact ⟨this.1, by rw [this.2]; omega⟩
      · split
        · exact writeP_frame s a.acc
        · split
          · have := wantP_frame s a.x.layer; exact ⟨this.1, by rw [this.2]; omega⟩
          · exact ⟨rfl, Nat.le_succ _⟩
def totP (s : LnS) : Nat := s.A.length + s.B.length + s.C.length
def roundP (s : LnS) : LnS := (writeP (rewriteP (chooseP s).1).1 true).1
theorem round_tot (h : 1 ≤ s.room) : totP (roundP s) ≤ totP s - 1 := by
  unfold roundP
  have hw : ∀ t : LnS, (writeP t true).1.A = t.A ∧ (writeP t true).1.B = t.B ∧ (writeP t true).1.C = t.C.tail := fun t => by
    rcases writeP_eq t true with ⟨e1, e⟩ | ⟨o, C, e1, ⟨_, e⟩ | ⟨ha, _⟩⟩
    · rw [e]; exact ⟨rfl, rfl, by rw [e1]; rfl⟩
    · rw [e, e1]; exact ⟨rfl, rfl, rfl⟩
    · cases ha
  obtain ⟨w1, w2, w3⟩ := hw (rewriteP (chooseP s).1).1
  unfold totP
  rw [w1, w2, w3, List.length_tail]
  clear w1 w2 w3 hw
  have hr : ∀ t : LnS, 1 ≤ t.room → (rewriteP t).1.A = t.A ∧ ((t.B = [] ∧ (rewriteP t).1 = t) ∨ ((rewriteP t).1.B.length + 1 = t.B.length ∧ 1 ≤ (rewriteP t).1.C.length ∧ (rewriteP t).1.C.length ≤ t.C.length + 1)) := fun t ht => by
    rcases rewriteP_eq t with ⟨e1, e⟩ | ⟨x, f, B, e1, e⟩
    · rw [e]; exact ⟨rfl, Or.inl ⟨e1, rfl⟩⟩
    · rw [e]
      refine ⟨rfl, Or.inr ⟨by rw [e1]; rfl, ?_, ?_⟩⟩
      · show 1 ≤ (if t.C.length < t.room then t.C ++ [_] else t.C.tail ++ [_]).length
        split <;> simp
      · show (if t.C.length < t.room then t.C ++ [_] else t.C.tail ++ [_]).length ≤ _
        split <;> simp <;> omega
  obtain ⟨r1, r2⟩ := hr (chooseP s).1 (by rw [(chooseP_frame s).1]; exact h)
  rw [r1]
  rcases chooseP_eq s with ⟨hm, e⟩ | ⟨hm, x, A, eA, eB, e⟩
  · rw [e] at r2 ⊢
    dsimp only at r2 ⊢
    rcases r2 with ⟨b0, rr⟩ | ⟨b1, b2, b3⟩
    · rw [rr]
      have hm2 : (decide (0 < s.A.length) && decide (¬ s.B.length = s.room)) = false := hm
      rw [b0] at hm2
      have ha : s.A.length = 0 := by
        by_cases h0 : 0 < s.A.length
        · simp [h0] at hm2
          omega
        · omega
      have := congrArg List.length b0
      simp only [List.length_nil] at this
      omega
    · omega
  · have hB : (chooseP s).1.B.length ≤ s.B.length + 1 := by
      rw [e]
      show (if _ then _ else _ : List _).length ≤ _
      split <;> simp
    have hC : (chooseP s).1.C = s.C := by rw [e]
    have hA : (chooseP s).1.A.length + 1 = s.A.length := by rw [e, eA]; rfl
    rcases r2 with ⟨b0, rr⟩ | ⟨b1, b2, b3⟩
    · rw [rr, hC, b0]
      simp only [List.length_nil]
      omega
    · rw [hC] at b3
      omega
theorem mays (hB : s.B.length ≤ s.room) (h : 1 ≤ s.room) : (mayP s 1 || mayP s 2 || mayP s 3) = !decide ([(s.A.length : Int), s.B.length, s.C.length] = [0, 0, 0]) := by
  have e : (mayP s 1 || mayP s 2 || mayP s 3) = ((decide (0 < s.A.length) && decide (¬ s.B.length = s.room)) || decide (0 < s.B.length) || decide (0 < s.C.length)) := rfl
  rw [e, Bool.eq_iff_iff]
  simp only [Bool.or_eq_true, Bool.and_eq_true, decide_eq_true_eq, Bool.not_eq_true', decide_eq_false_iff_not, List.cons.injEq, and_true]
  omega
end
end Go.Proofs.Ytdgmmffedhikcaa
/- The laws of lane: configs; a lane made. -/
namespace Go.Proofs.Ytdgmmffedhikcaa
set_option linter.unusedSimpArgs false
set_option linter.unusedVariables false
open Go.RowKit Go.ChangeShapes
set_option maxRecDepth 100000

structure CfS where
  room : Int
  most : Int
  src : Int
  sq : Int
  st : Int
def RCfg : Reader CfS := fun _ cs c => cs = [.int .i64 c.room, .int .i64 c.most, .int .u32 c.src, .int .u16 c.sq, .int .u32 c.st] ∧ U32 c.src ∧ U16 c.sq ∧ U32 c.st
def TCfg : Reader (Int × Int × Int × Int × Int × Unit) := RCons 1 (RInt .i64) (RCons 1 (RInt .i64) (RCons 1 (RInt .u32) (RCons 1 (RInt .u16) (RCons 1 (RInt .u32) RNil))))
theorem cfg_of_t {w : World} {cs : List Value} {y : Int × Int × Int × Int × Int × Unit} (hl : cs.length = 5) (h : TCfg w cs y) : ∃ z, RCfg w cs z := by
  match cs, hl with
  | [k0, k1, k2, k3, k4], _ =>
    obtain ⟨⟨r0, _⟩, ⟨r1, _⟩, ⟨r2, b2⟩, ⟨r3, b3⟩, ⟨r4, b4⟩, _⟩ := h
    simp at r0 r1 r2 r3 r4
    subst r0 r1 r2 r3 r4
    exact ⟨⟨_, _, _, _, _⟩, rfl, bounds_u32 b2, bounds_u16 b3, bounds_u32 b4⟩
theorem opensCfg : Opens Try.prog 25 RCfg := fun H enc w base spare held fuel cs x hx => by
  obtain ⟨y, hy⟩ := (Opens.struct (R := TCfg) Try.underlying25 (by kernel_rfl) (OpensF.cons rfl (by kernel_rfl) (Opens.int Try.underlying3) (OpensF.cons rfl (by kernel_rfl) (Opens.int Try.underlying3) (OpensF.cons rfl (by kernel_rfl) (Opens.int Try.underlying22) (OpensF.cons rfl (by kernel_rfl) (Opens.int Try.underlying23) (OpensF.cons rfl (by kernel_rfl) (Opens.int Try.underlying22) OpensF.nil)))))) H enc w base spare held fuel cs x hx
  refine cfg_of_t ?_ hy
  obtain ⟨_, _, _, _, hl, _⟩ := DataW.trod_struct Try.underlying25 hx
  rw [hl]
  kernel_rfl
theorem new_hF (w0 w : World) (m0 : More w0 w) (F : List Nat) (hF : ∀ b ∈ F, w0.heap.size ≤ b ∧ b < w.heap.size) (m mo src sq st : Int) (n : Nat) (hmn : m = n) (h1 : 1 ≤ n) (h2 : n ≤ 8) (h3 : 1 ≤ mo) (h4 : mo ≤ 10) (hq : U16 sq) (hs : U32 src) : Calls Try.prog 10 #[.agg #[.int .i64 m, .int .i64 mo, .int .u32 src, .int .u16 sq, .int .u32 st]] w fun e w' => ∃ L, e = .returned (.tuple #[.pointer (some ⟨L, 0, none⟩), .int .i64 0]) ∧ LnH w0 w' L (newL n mo src sq st) F ∧ More w w' := by
  refine (new_ln m mo src sq st n hmn h1 h2 h3 h4 hq hs w).mono ?_
  rintro e w' ⟨L, rfl, l, mm⟩
  refine ⟨L, rfl, ⟨_, l, fun b hb => Nat.le_trans m0.size hb.1, fun b hb => ?_, m0.trans mm⟩, mm⟩
  obtain ⟨h1, h2⟩ := hF b hb
  exact ⟨fun e => by omega, h1, Nat.lt_of_lt_of_le h2 mm.size⟩
/-- May such a lane be? -/
def cfgB (m mo : Int) : Bool := decide (1 ≤ m ∧ m ≤ 8 ∧ 1 ≤ mo ∧ mo ≤ 10)
theorem new_bad (m mo src sq st : Int) (h : cfgB m mo = false) (w : World) : Calls Try.prog 10 #[.agg #[.int .i64 m, .int .i64 mo, .int .u32 src, .int .u16 sq, .int .u32 st]] w fun e w' => e = .returned (.tuple #[.pointer none, .int .i64 1]) ∧ More w w' := by
  have h := of_decide_eq_false h
  by_cases h1 : m < 1 ∨ 8 < m
  · exact new_ln_room m mo src sq st h1 w
  · exact new_ln_most m mo src sq st m.toNat (by omega) (by omega) (by omega) (by omega) w
end Go.Proofs.Ytdgmmffedhikcaa
/- What was put, in a row of the law's own; plain: where what is queued stands there. -/
namespace Go.Proofs.Ytdgmmffedhikcaa
set_option linter.unusedSimpArgs false
set_option linter.unusedVariables false
open Go.RowKit
set_option maxRecDepth 100000

/-- An item as it came in: its slices were there ahead. -/
def RPt (w0 : World) : Reader ItS := fun _ cs x => ∃ os oe ol ks ke kl, cs = itC x (.slice os x.pk.ss.length ks) (.slice oe x.pk.ex.length ke) (.slice ol x.pk.pl.length kl) ∧ PkS w0 (.slice os x.pk.ss.length ks) (.slice oe x.pk.ex.length ke) (.slice ol x.pk.pl.length kl) x.pk ∧ PkOK x.pk ∧ PkSm x.pk
theorem RPt.off {w0 w w2 : World} {D : Nat → Prop} {cs : List Value} {x : ItS} (h : RPt w0 w cs x) : RdOff (RPt w0) D w2 cs x := fun _ _ => h
theorem takeP_cases (cu tg ly : Int) (ky : Bool) : (ly = cu ∧ takeP cu tg ly ky = (cu, 0, false)) ∨ (ly ≠ cu ∧ ly = tg ∧ ky = true ∧ takeP cu tg ly ky = (ly, 0, true)) ∨ (ly ≠ cu ∧ ly = tg ∧ ky = false ∧ takeP cu tg ly ky = (cu, 5, false)) ∨ (ly ≠ cu ∧ ly ≠ tg ∧ takeP cu tg ly ky = (cu, 4, false)) := by
  unfold takeP
  by_cases h1 : ly = cu
  · exact Or.inl ⟨h1, by rw [if_pos h1]⟩
  · by_cases h2 : ly = tg
    · cases ky with
      | true => exact Or.inr (Or.inl ⟨h1, h2, rfl, by rw [if_neg h1, if_pos h2]; rfl⟩)
      | false => exact Or.inr (Or.inr (Or.inl ⟨h1, h2, rfl, by rw [if_neg h1, if_pos h2]; rfl⟩))
    · exact Or.inr (Or.inr (Or.inr ⟨h1, h2, by rw [if_neg h1, if_neg h2]⟩))
def it0 : ItS := ⟨0, 0, false, pk00⟩
theorem rowOwn_stay {w w' : World} {base e n m : Nat} {v : Value} {xs : List Value} (h : w.ownsRow base e n v m xs) (hs : ∀ b, v.ownBlock = some b → w'.heap[b]? = w.heap[b]?) : w'.ownsRow base e n v m xs := by
  obtain ⟨h1, h2⟩ := h
  refine ⟨h1, ?_⟩
  rcases h2 with h | ⟨b, cap, cur, e1, hb, hg, rest⟩
  · exact Or.inl h
  · exact Or.inr ⟨b, cap, cur, e1, hb, (hs b (by rw [e1]; rfl)).trans hg, rest⟩
/-- The row of what was put; F: the law's own blocks. -/
structure PutAt (w0 w : World) (v : Value) (P : List ItS) (F : List Nat) : Prop where
  row : RowP 13 (RPt w0) (fun _ => False) w w0.heap.size 41 v P
  own : ∀ b, v.ownBlock = some b → b ∈ F
section
variable {w0 w w' : World} {L : Nat} {s : LnS} {F : List Nat} {v v' : Value} {P : List ItS}
theorem PutAt.nil (w0 w : World) (F : List Nat) : PutAt w0 w (.slice none 0 0) [] F := ⟨RowP.nil 13 _ _ w _ _, fun b h => by cases h⟩
theorem PutAt.same (h : PutAt w0 w v P F) (hs : ∀ b ∈ F, w'.heap[b]? = w.heap[b]?) : PutAt w0 w' v P F := by
  obtain ⟨⟨⟨xs, o, r⟩, ap⟩, hF⟩ := h
  exact ⟨⟨⟨xs, rowOwn_stay o (fun b hb => hs b (hF b hb)), fun i hi _ _ => r i hi w (Away.refl _ _)⟩, ap⟩, hF⟩
theorem PutAt.stay (h : PutAt w0 w v P F) (hs : Stay F w w') : PutAt w0 w' v P F := h.same hs.2
theorem PutAt.more (h : PutAt w0 w v P F) (m : More w w') : PutAt w0 w' v P F := ⟨h.row.on m, h.own⟩
theorem PutAt.grow {F' : List Nat} (h : PutAt w0 w v P F) (hF : ∀ b ∈ F, b ∈ F') : PutAt w0 w v P F' := ⟨h.row, fun b hb => hF b (h.own b hb)⟩
theorem PutAt.shape (h : PutAt w0 w v P F) : ∃ oa cap, v = .slice oa P.length cap := by
  obtain ⟨oa, m, cap, e, hm, _⟩ := h.row.shape
  exact ⟨oa, cap, by rw [e, hm]⟩
/-- The i-th one. -/
theorem PutAt.get (h : PutAt w0 w v P F) (i : Nat) (hi : i < P.length) : ∃ g cap os oe ol ks ke kl, v = .slice (some ⟨g, 0, none⟩) P.length cap ∧ g < w.heap.size ∧
    w.rangeAt g (i * 13) (itC (P.getD i it0) (.slice os (P.getD i it0).pk.ss.length ks) (.slice oe (P.getD i it0).pk.ex.length ke) (.slice ol (P.getD i it0).pk.pl.length kl)) ∧
    PkS w0 (.slice os (P.getD i it0).pk.ss.length ks) (.slice oe (P.getD i it0).pk.ex.length ke) (.slice ol (P.getD i it0).pk.pl.length kl) (P.getD i it0).pk ∧ PkOK (P.getD i it0).pk ∧ PkSm (P.getD i it0).pk := by
  obtain ⟨⟨⟨xs, o, r⟩, _⟩, _⟩ := h
  have eg : P.getD i it0 = P[i] := by simp [hi]
  rw [eg]
  obtain ⟨os, oe, ol, ks, ke, kl, e, hs, hk, hm⟩ := r i hi w (Away.refl _ _)
  rcases o.2 with ⟨_, h0⟩ | ⟨g, cap, cur, rfl, hb, hg, hrest⟩
  · omega
  · refine ⟨g, cap, os, oe, ol, ks, ke, kl, rfl, lt_of_block hg, fun j u hu => ?_, hs, hk, hm⟩
    have hj : j < 13 := (List.getElem?_eq_some_iff.1 hu).1
    have hin : i * 13 + 13 ≤ P.length * 13 := by omega
    rw [o.cellAt _ (by omega), ← hu, ← e, List.getElem?_take, if_pos hj, List.getElem?_drop]
/-- What a law's own row grows by. -/
theorem LnH.grown (h : LnH w0 w L s F) (hv : ∀ b, v.ownBlock = some b → b ∈ F) (hg : w.grownBy w' v.ownBlock) (hb : v'.ownBlock = v.ownBlock ∨ v'.ownBlock = some w.heap.size) (hlt : ∀ b, v'.ownBlock = some b → b < w'.heap.size) :
    ∃ F', LnH w0 w' L s F' ∧ (∀ b, v'.ownBlock = some b → b ∈ F') ∧ ∀ b ∈ F, b ∈ F' := by
  have a : Away (fun b => b ∈ F) w w' := (Away.of_grown hg).mono fun b hb => hv b hb
  rcases hb with e | e
  · exact ⟨F, h.mut a, fun b hb => hv b (by rw [← e]; exact hb), fun _ h => h⟩
  · refine ⟨w.heap.size :: F, ?_, fun b hb => ?_, fun b hb => List.mem_cons_of_mem _ hb⟩
    · have hm := h.mut a
      obtain ⟨N, l, h1, h2, h3⟩ := h
      refine ⟨N, l.away a (fun b hb => (h2 b hb).1), h1, fun c hc => ?_, a.to_more h3 (fun b hb => (h2 b hb).2.1)⟩
      rcases List.mem_cons.1 hc with rfl | hc
      · exact ⟨fun e => by have := l.sub _ e; omega, h3.size, hlt _ e⟩
      · exact ⟨(h2 c hc).1, (h2 c hc).2.1, Nat.lt_of_lt_of_le (h2 c hc).2.2 a.size⟩
    · rw [e] at hb
      injection hb with hb
      subst hb
      exact List.mem_cons_self
end

/-! Plain: what is queued is what was put. -/
def isPut (P : List ItS) (x : ItS) : Prop := ∃ i : Nat, i < P.length ∧ x = { P.getD i it0 with id := (i : Int) }
theorem isPut.app {P : List ItS} {x : ItS} (h : isPut P x) (y : ItS) : isPut (P ++ [y]) x := by
  obtain ⟨i, hi, e⟩ := h
  refine ⟨i, by simp; omega, ?_⟩
  rw [e, List.getD_eq_getElem?_getD, List.getD_eq_getElem?_getD, List.getElem?_append_left hi]
theorem isPut.new (P : List ItS) (y : ItS) : isPut (P ++ [y]) { y with id := (P.length : Int) } :=
  ⟨P.length, by simp, by rw [List.getD_eq_getElem?_getD, List.getElem?_append_right (Nat.le_refl _)]; simp⟩
structure PInv (s : LnS) (P : List ItS) : Prop where
  a : ∀ x ∈ s.A, isPut P x
  b : ∀ y ∈ s.B, isPut P y.1
  w : s.A ≠ [] → s.wanted = true
theorem mem_tail {α : Type} {l : List α} {x : α} (h : x ∈ l.tail) : x ∈ l := List.mem_of_mem_tail h
section
variable {s : LnS} {P : List ItS}
theorem PInv.choose (h : PInv s P) : PInv (chooseP s).1 P := by
  rcases chooseP_eq s with ⟨_, e⟩ | ⟨_, x, A, eA, _, e⟩
  · rw [e]; exact h
  · rw [e]
    have hx := h.a x (by rw [eA]; simp)
    refine ⟨fun y hy => h.a y (by rw [eA]; exact List.mem_cons_of_mem _ hy), fun y hy => ?_, fun _ => h.w (by rw [eA]; simp)⟩
    simp only at hy
    split at hy
    · rcases List.mem_append.1 hy with hy | hy
      · exact h.b y hy
      · obtain rfl := List.mem_singleton.1 hy
        exact hx
    · exact h.b y hy
theorem PInv.rewrite (h : PInv s P) : PInv (rewriteP s).1 P := by
  rcases rewriteP_eq s with ⟨_, e⟩ | ⟨x, f, B, eB, e⟩
  · rw [e]; exact h
  · rw [e]
    exact ⟨h.a, fun y hy => h.b y (by rw [eB]; exact List.mem_cons_of_mem _ hy), h.w⟩
theorem PInv.write (h : PInv s P) (acc : Bool) : PInv (writeP s acc).1 P := by
  rcases writeP_eq s acc with ⟨_, e⟩ | ⟨o, C, eC, ⟨ho, e⟩ | ⟨ha, hg, hb, e⟩⟩
  · rw [e]; exact h
  · rw [e]; exact ⟨h.a, h.b, h.w⟩
  · rw [e]; exact ⟨fun x hx => by simp at hx, fun x hx => by simp at hx, fun hx => absurd rfl hx⟩
theorem PInv.want (h : PInv s P) (n : Int) : PInv (wantP s n).1 P := by
  rcases wantP_eq s n with e | ⟨_, e⟩
  · rw [e]; exact h
  · rw [e]; exact ⟨h.a, h.b, fun _ => rfl⟩
theorem PInv.put (h : PInv s P) (x : ItS) : PInv (putP s { x with id := (P.length : Int) }).1 (if (putP s { x with id := (P.length : Int) }).2.2.2 == 0 then P ++ [x] else P) := by
  rcases putP_eq s { x with id := (P.length : Int) } with ⟨e1, e2, _⟩ | ⟨hg, hw, _, _, e2, e1, _⟩
  · rw [e1, if_neg (by simpa using e2)]; exact h
  · rw [e2, if_pos (show ((0 : Int) == 0) = true from rfl), e1]
    refine ⟨fun y hy => ?_, fun y hy => (h.b y hy).app x, fun _ => hw⟩
    simp only at hy
    split at hy
    · rcases List.mem_append.1 hy with hy | hy
      · exact (h.a y hy).app x
      · obtain rfl := List.mem_singleton.1 hy
        exact isPut.new P x
    · rcases List.mem_append.1 hy with hy | hy
      · exact (h.a y (mem_tail hy)).app x
      · obtain rfl := List.mem_singleton.1 hy
        exact isPut.new P x
theorem PInv.do (h : PInv s P) (d : ActS) : PInv (doP s d P.length).1 (if (doP s d P.length).2 then P ++ [d.x] else P) := by
  unfold doP
  split
  · have := h.put d.x
    simp only
    exact this
  · split
    · exact h.choose
    · split
      · exact h.rewrite
      · split
        · exact h.write _
        · split
          · exact h.want _
          · exact h
end
end Go.Proofs.Ytdgmmffedhikcaa
/- What is written, plain: in the order in which it was put, each once, but for its head's Source, Seq and Stamp as it was. -/
namespace Go.Proofs.Ytdgmmffedhikcaa
set_option linter.unusedSimpArgs false
set_option linter.unusedVariables false
open Go.RowKit
set_option maxRecDepth 100000

def seqP (s : LnS) : List Int := s.W.map (·.1) ++ s.C.map (·.1) ++ s.B.map (·.1.id) ++ s.A.map (·.id)
def isOut (src : Int) (P : List ItS) (o : Int × List Int) : Prop :=
  ∃ i : Nat, i < P.length ∧ o.1 = (i : Int) ∧ ∃ q st : Int, U16 q ∧ U32 st ∧ o.2 = pkB { (P.getD i it0).pk with sq := q, st := st, sc := src } ∧ rightH (P.getD i it0).pk = true
theorem getD_app {P : List ItS} {i : Nat} (h : i < P.length) (y : ItS) : (P ++ [y]).getD i it0 = P.getD i it0 := by
  rw [List.getD_eq_getElem?_getD, List.getD_eq_getElem?_getD, List.getElem?_append_left h]
theorem isOut.app {src : Int} {P : List ItS} {o : Int × List Int} (h : isOut src P o) (y : ItS) : isOut src (P ++ [y]) o := by
  obtain ⟨i, hi, e, q, st, hq, hs, eo, hr⟩ := h
  refine ⟨i, by simp; omega, e, q, st, hq, hs, ?_, ?_⟩
  · rw [getD_app hi]; exact eo
  · rw [getD_app hi]; exact hr
structure WInv (src : Int) (s : LnS) (P : List ItS) : Prop where
  base : PInv s P
  sc : s.rw.src = src
  sq : U16 s.rw.sq
  asc : (seqP s).Pairwise (· < ·)
  lim : ∀ i ∈ seqP s, i < (P.length : Int)
  outs : ∀ o ∈ s.W ++ s.C, isOut src P o
  ra : ∀ x ∈ s.A, rightH x.pk = true
  rb : ∀ y ∈ s.B, rightH y.1.pk = true
section
variable {s : LnS} {P : List ItS} {src : Int}
theorem WInv.choose (h : WInv src s P) : WInv src (chooseP s).1 P := by
  have hb := h.base.choose
  rcases chooseP_eq s with ⟨_, e⟩ | ⟨_, x, A, eA, _, e⟩
  · rw [e]; exact h
  · rw [e] at hb ⊢
    have hsub : (seqP { s with A := A, cur := (takeP s.cur s.tgt x.layer x.key).1, B := if (takeP s.cur s.tgt x.layer x.key).2.1 = 0 then s.B ++ [(x, (takeP s.cur s.tgt x.layer x.key).2.2)] else s.B }).Sublist (seqP s) := by
      unfold seqP
      simp only [eA, List.map_cons]
      split
      · simp
      · simp
    refine ⟨hb, h.sc, h.sq, h.asc.sublist hsub, fun i hi => h.lim i (hsub.subset hi), h.outs, fun y hy => h.ra y (by rw [eA]; exact List.mem_cons_of_mem _ hy), fun y hy => ?_⟩
    simp only at hy
    split at hy
    · rcases List.mem_append.1 hy with hy | hy
      · exact h.rb y hy
      · obtain rfl := List.mem_singleton.1 hy
        exact h.ra x (by rw [eA]; simp)
    · exact h.rb y hy
theorem WInv.rewrite (h : WInv src s P) : WInv src (rewriteP s).1 P := by
  have hb := h.base.rewrite
  rcases rewriteP_eq s with ⟨_, e⟩ | ⟨x, f, B, eB, e⟩
  · rw [e]; exact h
  · rw [e] at hb ⊢
    have hx : isPut P x := h.base.b (x, f) (by rw [eB]; simp)
    have hr : rightH x.pk = true := h.rb (x, f) (by rw [eB]; simp)
    have ho : isOut src P (x.id, pkB (tellP s.rw x.pk f)) := by
      obtain ⟨i, hi, ex⟩ := hx
      refine ⟨i, hi, by rw [ex], s.rw.sq, (x.pk.st + shL s.rw x.pk.st f) % 4294967296, h.sq, ⟨by omega, by omega⟩, ?_, by rw [ex] at hr; exact hr⟩
      show pkB (tellP s.rw x.pk f) = _
      unfold tellP
      rw [h.sc, ex]
    have hsub : (seqP { s with B := B, rw := stepP s.rw x.pk f, C := if s.C.length < s.room then s.C ++ [(x.id, pkB (tellP s.rw x.pk f))] else s.C.tail ++ [(x.id, pkB (tellP s.rw x.pk f))] }).Sublist (seqP s) := by
      unfold seqP
      simp only [eB, List.map_cons]
      split
      · simp
      · simp only [List.map_append, List.map_cons, List.map_nil, List.append_assoc, List.cons_append, List.nil_append, ← List.map_tail]
        refine List.Sublist.append_left ?_ _
        exact List.Sublist.append_right ((List.tail_sublist s.C).map _) _
    refine ⟨hb, h.sc, ⟨by show 0 ≤ (s.rw.sq + 1) % 65536; omega, by show (s.rw.sq + 1) % 65536 ≤ _; omega⟩, h.asc.sublist hsub, fun i hi => h.lim i (hsub.subset hi), fun o hm => ?_, h.ra, fun y hy => h.rb y (by rw [eB]; exact List.mem_cons_of_mem _ hy)⟩
    simp only at hm
    rcases List.mem_append.1 hm with hm | hm
    · exact h.outs o (List.mem_append_left _ hm)
    · split at hm
      · rcases List.mem_append.1 hm with hm | hm
        · exact h.outs o (List.mem_append_right _ hm)
        · obtain rfl := List.mem_singleton.1 hm
          exact ho
      · rcases List.mem_append.1 hm with hm | hm
        · exact h.outs o (List.mem_append_right _ (mem_tail hm))
        · obtain rfl := List.mem_singleton.1 hm
          exact ho
theorem WInv.write (h : WInv src s P) (acc : Bool) : WInv src (writeP s acc).1 P := by
  have hb := h.base.write acc
  rcases writeP_eq s acc with ⟨_, e⟩ | ⟨o, C, eC, ⟨ho, e⟩ | ⟨ha, hg, hbb, e⟩⟩
  · rw [e]; exact h
  · rw [e] at hb ⊢
    cases acc with
    | true =>
      have hq : seqP { s with C := C, W := s.W ++ [o], row := (offerP s true).1, gone := (offerP s true).2.1 } = seqP s := by
        unfold seqP
        simp [eC]
      refine ⟨hb, h.sc, h.sq, ?_, ?_, fun y hy => h.outs y ?_, h.ra, h.rb⟩
      · exact hq ▸ h.asc
      · intro i hi
        exact h.lim i (hq ▸ hi)
      · rw [eC]
        simpa using hy
    | false =>
      have hq : seqP { s with C := o :: C, W := s.W, row := (offerP s false).1, gone := (offerP s false).2.1 } = seqP s := by
        unfold seqP
        simp [eC]
      refine ⟨hb, h.sc, h.sq, ?_, ?_, fun y hy => h.outs y ?_, h.ra, h.rb⟩
      · exact hq ▸ h.asc
      · intro i hi
        exact h.lim i (hq ▸ hi)
      · rw [eC]
        simpa using hy
  · rw [e] at hb ⊢
    have hsub : (seqP { s with A := [], B := [], C := [], row := (offerP s acc).1, gone := (offerP s acc).2.1 }).Sublist (seqP s) := by
      unfold seqP
      simp only [List.map_nil, List.append_nil, List.append_assoc]
      exact List.sublist_append_left _ _
    exact ⟨hb, h.sc, h.sq, h.asc.sublist hsub, fun i hi => h.lim i (hsub.subset hi), fun y hy => h.outs y (by simp at hy; simp [hy]), fun x hx => by simp at hx, fun x hx => by simp at hx⟩
theorem WInv.want (h : WInv src s P) (n : Int) : WInv src (wantP s n).1 P := by
  have hb := h.base.want n
  rcases wantP_eq s n with e | ⟨_, e⟩
  · rw [e]; exact h
  · rw [e] at hb ⊢; exact ⟨hb, h.sc, h.sq, h.asc, h.lim, h.outs, h.ra, h.rb⟩
theorem WInv.put (h : WInv src s P) (x : ItS) : WInv src (putP s { x with id := (P.length : Int) }).1 (if (putP s { x with id := (P.length : Int) }).2.2.2 == 0 then P ++ [x] else P) := by
  have hb := h.base.put x
  rcases putP_eq s { x with id := (P.length : Int) } with ⟨e1, e2, _⟩ | ⟨hg, hw, hr, _, e2, e1, _⟩
  · rw [e1, if_neg (by simpa using e2)]; exact h
  · rw [e2, if_pos (show ((0 : Int) == 0) = true from rfl), e1] at hb ⊢
    have hsub : (seqP { s with A := if s.A.length < s.room then s.A ++ [{ x with id := (P.length : Int) }] else s.A.tail ++ [{ x with id := (P.length : Int) }] }).Sublist (seqP s ++ [(P.length : Int)]) := by
      unfold seqP
      simp only
      split
      · simp
      · simp only [List.map_append, List.map_cons, List.map_nil, List.append_assoc, ← List.map_tail]
        refine List.Sublist.append_left (List.Sublist.append_left (List.Sublist.append_left ?_ _) _) _
        exact List.Sublist.append_right ((List.tail_sublist s.A).map _) _
    have hasc : (seqP s ++ [(P.length : Int)]).Pairwise (· < ·) := List.pairwise_append.2 ⟨h.asc, by simp, fun a ha b hb => by
      obtain rfl := List.mem_singleton.1 hb
      exact h.lim a ha⟩
    refine ⟨hb, h.sc, h.sq, hasc.sublist hsub, fun i hi => ?_, fun o ho => (h.outs o ho).app x, fun y hy => ?_, h.rb⟩
    · have := hsub.subset hi
      rcases List.mem_append.1 this with hi | hi
      · have := h.lim i hi; simp; omega
      · obtain rfl := List.mem_singleton.1 hi
        simp; omega
    · simp only at hy
      split at hy
      · rcases List.mem_append.1 hy with hy | hy
        · exact h.ra y hy
        · obtain rfl := List.mem_singleton.1 hy
          exact hr
      · rcases List.mem_append.1 hy with hy | hy
        · exact h.ra y (mem_tail hy)
        · obtain rfl := List.mem_singleton.1 hy
          exact hr
theorem WInv.do (h : WInv src s P) (d : ActS) : WInv src (doP s d P.length).1 (if (doP s d P.length).2 then P ++ [d.x] else P) := by
  unfold doP
  split
  · have := h.put d.x
    simp only
    exact this
  · split
    · exact h.choose
    · split
      · exact h.rewrite
      · split
        · exact h.write _
        · split
          · exact h.want _
          · exact h
end
end Go.Proofs.Ytdgmmffedhikcaa
