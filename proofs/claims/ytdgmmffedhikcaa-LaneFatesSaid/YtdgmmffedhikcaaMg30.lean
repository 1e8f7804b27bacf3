/- Merged from my texts LaneLp, LaneLw, LaneFp. -/
import Derived.Test.YtdgmmffedhikcaaMg29
/- What acts make of a lane's plain state. -/
namespace Go.Proofs.Ytdgmmffedhikcaa
set_option linter.unusedSimpArgs false
set_option linter.unusedVariables false
open Go.RowKit
set_option maxRecDepth 100000

section
variable (s : LnS)
theorem putP_eq (x : ItS) : (putP s x).1 = s ∧ (putP s x).2.2.2 ≠ 0 ∧ (putP s x).2.2.1 = false ∨ s.gone = false ∧ s.wanted = true ∧ rightH x.pk = true ∧ thereL x.layer = true ∧ (putP s x).2.2.2 = 0 ∧ (putP s x).1 = { s with A := if s.A.length < s.room then s.A ++ [x] else s.A.tail ++ [x] } ∧ (putP s x).2.1 = (if s.A.length < s.room then 0 else (s.A.head?.map (·.id)).getD 0) ∧ (putP s x).2.2.1 = decide (¬ s.A.length < s.room) := by
  unfold putP
  split
  · exact Or.inl ⟨rfl, by simp, rfl⟩
  · rename_i h1
    have h1 : thereL x.layer = true ∧ rightH x.pk = true := by simpa using h1
    split
    · exact Or.inl ⟨rfl, by simp, rfl⟩
    · rename_i h2
      split
      · exact Or.inl ⟨rfl, by simp, rfl⟩
      · rename_i h3
        refine Or.inr ⟨by simpa using h2, by simpa using h3, h1.2, h1.1, rfl, ?_, ?_, ?_⟩
        all_goals (unfold putL'; split <;> rename_i h4 <;> simp [h4])
theorem chooseP_eq : (mayP s 1 = false ∧ chooseP s = (s, 0, 0, false)) ∨ (mayP s 1 = true ∧ ∃ x A, s.A = x :: A ∧ s.B.length ≠ s.room ∧ chooseP s = ({ s with A := A, cur := (takeP s.cur s.tgt x.layer x.key).1, B := if (takeP s.cur s.tgt x.layer x.key).2.1 = 0 then s.B ++ [(x, (takeP s.cur s.tgt x.layer x.key).2.2)] else s.B }, x.id, (takeP s.cur s.tgt x.layer x.key).2.1, true)) := by
  cases hm : mayP s 1 with
  | false => exact Or.inl ⟨rfl, by unfold chooseP; rw [if_pos hm]⟩
  | true =>
    have h1 : (decide (0 < s.A.length) && decide (¬ s.B.length = s.room)) = true := hm
    rw [Bool.and_eq_true] at h1
    cases hA : s.A with
    | nil => rw [hA] at h1; simp at h1
    | cons x A => exact Or.inr ⟨rfl, x, A, rfl, by simpa using h1.2, by unfold chooseP; rw [if_neg (by rw [hm]; decide), hA]⟩
theorem rewriteP_eq : (s.B = [] ∧ rewriteP s = (s, 0, false, false)) ∨ (∃ x f B, s.B = (x, f) :: B ∧ rewriteP s = ({ s with B := B, rw := stepP s.rw x.pk f, C := if s.C.length < s.room then s.C ++ [(x.id, pkB (tellP s.rw x.pk f))] else s.C.tail ++ [(x.id, pkB (tellP s.rw x.pk f))] }, (if s.C.length < s.room then 0 else (s.C.head?.map (·.1)).getD 0), decide (¬ s.C.length < s.room), true)) := by
  cases hB : s.B with
  | nil => exact Or.inl ⟨rfl, by unfold rewriteP; rw [hB]⟩
  | cons y B =>
    obtain ⟨x, f⟩ := y
    refine Or.inr ⟨x, f, B, rfl, ?_⟩
    unfold rewriteP readyP
    rw [hB]
    by_cases h : s.C.length < s.room <;> simp [h]
theorem writeP_eq (acc : Bool) : (s.C = [] ∧ writeP s acc = (s, 0, 0, false)) ∨ (∃ o C, s.C = o :: C ∧ ((offerP s acc).2.2 = false ∧ writeP s acc = ({ s with C := if acc then C else o :: C, W := if acc then s.W ++ [o] else s.W, row := (offerP s acc).1, gone := (offerP s acc).2.1 }, o.1, (if acc then 1 else 0), true) ∨
    acc = false ∧ s.gone = false ∧ (offerP s acc).2.1 = true ∧ writeP s acc = ({ s with A := [], B := [], C := [], row := (offerP s acc).1, gone := (offerP s acc).2.1 }, o.1, 7, true))) := by
  cases hC : s.C with
  | nil => exact Or.inl ⟨rfl, by unfold writeP; rw [hC]⟩
  | cons o C =>
    refine Or.inr ⟨o, C, rfl, ?_⟩
    cases hb : (offerP s acc).2.2 with
    | false => exact Or.inl ⟨rfl, by unfold writeP; rw [hC]; simp [hb]⟩
    | true =>
      have hg : s.gone = false := by
        cases hg : s.gone with
        | false => rfl
        | true => unfold offerP at hb; rw [if_pos hg] at hb; simp at hb
      have ha : acc = false := by
        cases acc with
        | false => rfl
        | true => unfold offerP at hb; rw [if_neg (by rw [hg]; decide), if_pos rfl] at hb; simp at hb
      subst ha
      have h3 : (offerP s false).2.1 = (offerP s false).2.2 := by unfold offerP; rw [if_neg (by rw [hg]; decide)]; rfl
      exact Or.inr ⟨rfl, hg, by rw [h3]; exact hb, by unfold writeP; rw [hC]; simp [hb]⟩
theorem wantP_eq (n : Int) : (wantP s n).1 = s ∨ s.gone = false ∧ (wantP s n).1 = { s with wanted := true, cur := if s.wanted then s.cur else -1, tgt := n } := by
  unfold wantP
  split
  · exact Or.inl rfl
  · split
    · exact Or.inl rfl
    · rename_i h
      exact Or.inr ⟨by simpa using h, rfl⟩
/-- Act by act: room stays, and one is written at most. -/
theorem putP_frame (x : ItS) : (putP s x).1.room = s.room ∧ (putP s x).1.W = s.W := by
  rcases putP_eq s x with ⟨e, _⟩ | ⟨_, _, _, _, _, e, _⟩ <;> rw [e] <;> exact ⟨rfl, rfl⟩
theorem chooseP_frame : (chooseP s).1.room = s.room ∧ (chooseP s).1.W = s.W := by
  rcases chooseP_eq s with ⟨_, e⟩ | ⟨_, x, A, _, _, e⟩ <;> rw [e] <;> exact ⟨rfl, rfl⟩
theorem rewriteP_frame : (rewriteP s).1.room = s.room ∧ (rewriteP s).1.W = s.W := by
  rcases rewriteP_eq s with ⟨_, e⟩ | ⟨x, f, B, _, e⟩ <;> rw [e] <;> exact ⟨rfl, rfl⟩
theorem writeP_frame (acc : Bool) : (writeP s acc).1.room = s.room ∧ (writeP s acc).1.W.length ≤ s.W.length + 1 := by
  rcases writeP_eq s acc with ⟨_, e⟩ | ⟨o, C, _, ⟨_, e⟩ | ⟨_, _, _, e⟩⟩ <;> rw [e]
  · exact ⟨rfl, by simp⟩
  · refine ⟨rfl, ?_⟩
    cases acc <;> simp
  · exact ⟨rfl, by simp⟩
theorem wantP_frame (n : Int) : (wantP s n).1.room = s.room ∧ (wantP s n).1.W = s.W := by
  rcases wantP_eq s n with e | ⟨_, e⟩ <;> rw [e] <;> exact ⟨rfl, rfl⟩
theorem doP_frame (a : ActS) (id : Int) : (doP s a id).1.room = s.room ∧ (doP s a id).1.W.length ≤ s.W.length + 1 := by
  unfold doP
  split
  · have := putP_frame s { a.x with id := id }; exact ⟨this.1, by rw [this.2]; omega⟩
  · split
    · have := chooseP_frame s; exact ⟨this.1, by rw [this.2]; omega⟩
    · split
      · have := rewriteP_frame s; exact ⟨this.1, by rw [this.2]; omega⟩
      · split
        · exact writeP_frame s a.acc
        · split
          · have := wantP_frame s a.x.layer; exact ⟨this.1, by rw [this.2]; omega⟩
          · exact ⟨rfl, Nat.le_succ _⟩
def totP (s : LnS) : Nat := s.A.length + s.B.length + s.C.length
def roundP (s : LnS) : LnS := (writeP (rewriteP (chooseP s).1).1 true).1
theorem round_tot (h : 1 ≤ s.room) : totP (roundP s) ≤ totP s - 1 := by
  unfold roundP
  have hw : ∀ t : LnS, (writeP t true).1.A = t.A ∧ (writeP t true).1.B = t.B ∧ (writeP t true).1.C = t.C.tail := fun t => by
    rcases writeP_eq t true with ⟨e1, e⟩ | ⟨o, C, e1, ⟨_, e⟩ | ⟨ha, _⟩⟩
    · rw [e]; exact ⟨rfl, rfl, by rw [e1]; rfl⟩
    · rw [e, e1]; exact ⟨rfl, rfl, rfl⟩
    · cases ha
  obtain ⟨w1, w2, w3⟩ := hw (rewriteP (chooseP s).1).1
  unfold totP
  rw [w1, w2, w3, List.length_tail]
  clear w1 w2 w3 hw
  have hr : ∀ t : LnS, 1 ≤ t.room → (rewriteP t).1.A = t.A ∧ ((t.B = [] ∧ (rewriteP t).1 = t) ∨ ((rewriteP t).1.B.length + 1 = t.B.length ∧ 1 ≤ (rewriteP t).1.C.length ∧ (rewriteP t).1.C.length ≤ t.C.length + 1)) := fun t ht => by
    rcases rewriteP_eq t with ⟨e1, e⟩ | ⟨x, f, B, e1, e⟩
    · rw [e]; exact ⟨rfl, Or.inl ⟨e1, rfl⟩⟩
    · rw [e]
      refine ⟨rfl, Or.inr ⟨by rw [e1]; rfl, ?_, ?_⟩⟩
      · show 1 ≤ (if t.C.length < t.room then t.C ++ [_] else t.C.tail ++ [_]).length
        split <;> simp
      · show (if t.C.length < t.room then t.C ++ [_] else t.C.tail ++ [_]).length ≤ _
        split <;> simp <;> omega
  obtain ⟨r1, r2⟩ := hr (chooseP s).1 (by rw [(chooseP_frame s).1]; exact h)
  rw [r1]
  rcases chooseP_eq s with ⟨hm, e⟩ | ⟨hm, x, A, eA, eB, e⟩
  · rw [e] at r2 ⊢
    dsimp only at r2 ⊢
    rcases r2 with ⟨b0, rr⟩ | ⟨b1, b2, b3⟩
    · rw [rr]
      have hm2 : (decide (0 < s.A.length) && decide (¬ s.B.length = s.room)) = false := hm
      rw [b0] at hm2
      have ha : s.A.length = 0 := by
        by_cases h0 : 0 < s.A.length
        · simp [h0] at hm2
          omega
        · omega
      have := congrArg List.length b0
      simp only [List.length_nil] at this
      omega
    · omega
  · have hB : (chooseP s).1.B.length ≤ s.B.length + 1 := by
      rw [e]
      show (if _ then _ else _ : List _).length ≤ _
      split <;> simp
    have hC : (chooseP s).1.C = s.C := by rw [e]
    have hA : (chooseP s).1.A.length + 1 = s.A.length := by rw [e, eA]; rfl
    rcases r2 with ⟨b0, rr⟩ | ⟨b1, b2, b3⟩
    · rw [rr, hC, b0]
      simp only [List.length_nil]
      omega
    · rw [hC] at b3
      omega
theorem mays (hB : s.B.length ≤ s.room) (h : 1 ≤ s.room) : (mayP s 1 || mayP s 2 || mayP s 3) = !decide ([(s.A.length : Int), s.B.length, s.C.length] = [0, 0, 0]) := by
  have e : (mayP s 1 || mayP s 2 || mayP s 3) = ((decide (0 < s.A.length) && decide (¬ s.B.length = s.room)) || decide (0 < s.B.length) || decide (0 < s.C.length)) := rfl
  rw [e, Bool.eq_iff_iff]
  simp only [Bool.or_eq_true, Bool.and_eq_true, decide_eq_true_eq, Bool.not_eq_true', decide_eq_false_iff_not, List.cons.injEq, and_true]
  omega
end
end Go.Proofs.Ytdgmmffedhikcaa
/- The laws of lane: configs; a lane made. -/
namespace Go.Proofs.Ytdgmmffedhikcaa
set_option linter.unusedSimpArgs false
set_option linter.unusedVariables false
open Go.RowKit Go.ChangeShapes
set_option maxRecDepth 100000

structure CfS where
  room : Int
  most : Int
  src : Int
  sq : Int
  st : Int
def RCfg : Reader CfS := fun _ cs c => cs = [.int .i64 c.room, .int .i64 c.most, .int .u32 c.src, .int .u16 c.sq, .int .u32 c.st] ∧ U32 c.src ∧ U16 c.sq ∧ U32 c.st
def TCfg : Reader (Int × Int × Int × Int × Int × Unit) := RCons 1 (RInt .i64) (RCons 1 (RInt .i64) (RCons 1 (RInt .u32) (RCons 1 (RInt .u16) (RCons 1 (RInt .u32) RNil))))
theorem cfg_of_t {w : World} {cs : List Value} {y : Int × Int × Int × Int × Int × Unit} (hl : cs.length = 5) (h : TCfg w cs y) : ∃ z, RCfg w cs z := by
  match cs, hl with
  | [k0, k1, k2, k3, k4], _ =>
    obtain ⟨⟨r0, _⟩, ⟨r1, _⟩, ⟨r2, b2⟩, ⟨r3, b3⟩, ⟨r4, b4⟩, _⟩ := h
    simp at r0 r1 r2 r3 r4
    subst r0 r1 r2 r3 r4
    exact ⟨⟨_, _, _, _, _⟩, rfl, bounds_u32 b2, bounds_u16 b3, bounds_u32 b4⟩
theorem opensCfg : Opens Try.prog 25 RCfg := fun H enc w base spare held fuel cs x hx => by
  obtain ⟨y, hy⟩ := (Opens.struct (R := TCfg) Try.underlying25 (by kernel_rfl) (OpensF.cons rfl (by kernel_rfl) (Opens.int Try.underlying3) (OpensF.cons rfl (by kernel_rfl) (Opens.int Try.underlying3) (OpensF.cons rfl (by kernel_rfl) (Opens.int Try.underlying22) (OpensF.cons rfl (by kernel_rfl) (Opens.int Try.underlying23) (OpensF.cons rfl (by kernel_rfl) (Opens.int Try.underlying22) OpensF.nil)))))) H enc w base spare held fuel cs x hx
  refine cfg_of_t ?_ hy
  obtain ⟨_, _, _, _, hl, _⟩ := DataW.trod_struct Try.underlying25 hx
  rw [hl]
  kernel_rfl
theorem new_hF (w0 w : World) (m0 : More w0 w) (F : List Nat) (hF : ∀ b ∈ F, w0.heap.size ≤ b ∧ b < w.heap.size) (m mo src sq st : Int) (n : Nat) (hmn : m = n) (h1 : 1 ≤ n) (h2 : n ≤ 8) (h3 : 1 ≤ mo) (h4 : mo ≤ 10) (hq : U16 sq) (hs : U32 src) : Calls Try.prog 10 #[.agg #[.int .i64 m, .int .i64 mo, .int .u32 src, .int .u16 sq, .int .u32 st]] w fun e w' => ∃ L, e = .returned (.tuple #[.pointer (some ⟨L, 0, none⟩), .int .i64 0]) ∧ LnH w0 w' L (newL n mo src sq st) F ∧ More w w' := by
  refine (new_ln m mo src sq st n hmn h1 h2 h3 h4 hq hs w).mono ?_
  rintro e w' ⟨L, rfl, l, mm⟩
  refine ⟨L, rfl, ⟨_, l, fun b hb => Nat.le_trans m0.size hb.1, fun b hb => ?_, m0.trans mm⟩, mm⟩
  obtain ⟨h1, h2⟩ := hF b hb
  exact ⟨fun e => by omega, h1, Nat.lt_of_lt_of_le h2 mm.size⟩
/-- May such a lane be? -/
def cfgB (m mo : Int) : Bool := decide (1 ≤ m ∧ m ≤ 8 ∧ 1 ≤ mo ∧ mo ≤ 10)
theorem new_bad (m mo src sq st : Int) (h : cfgB m mo = false) (w : World) : Calls Try.prog 10 #[.agg #[.int .i64 m, .int .i64 mo, .int .u32 src, .int .u16 sq, .int .u32 st]] w fun e w' => e = .returned (.tuple #[.pointer none, .int .i64 1]) ∧ More w w' := by
  have h := of_decide_eq_false h
  by_cases h1 : m < 1 ∨ 8 < m
  · exact new_ln_room m mo src sq st h1 w
  · exact new_ln_most m mo src sq st m.toNat (by omega) (by omega) (by omega) (by omega) w
end Go.Proofs.Ytdgmmffedhikcaa
/- Fates, plain: each packet has one end. -/
namespace Go.Proofs.Ytdgmmffedhikcaa
set_option linter.unusedSimpArgs false
set_option linter.unusedVariables false
open Go.RowKit
set_option maxRecDepth 100000

def idsP (s : LnS) : List Int := s.A.map (·.id) ++ s.B.map (·.1.id) ++ s.C.map (·.1)
theorem idsP_len (s : LnS) : (idsP s).length = totP s := by unfold idsP totP; simp; omega
structure FInv (s : LnS) (E : List Int) (p gn : Nat) : Prop where
  nd : (idsP s ++ E).Nodup
  rng : ∀ i ∈ idsP s ++ E, 0 ≤ i ∧ i < p
  cnt : p = E.length + gn + totP s
  dead : s.gone = true → totP s = 0
  live : s.gone = false → gn = 0
section
variable {s s' : LnS} {E E' : List Int} {p gn : Nat}
theorem FInv.move (h : FInv s E p gn) (hp : (idsP s' ++ E').Perm (idsP s ++ E)) (hE : E.length ≤ E'.length) (hg : s'.gone = s.gone) : FInv s' E' p gn := by
  have hl := hp.length_eq
  simp only [List.length_append, idsP_len] at hl
  refine ⟨hp.nodup_iff.2 h.nd, fun i hi => h.rng i (hp.mem_iff.1 hi), by have := h.cnt; omega, fun e => ?_, fun e => h.live (by rw [← hg]; exact e)⟩
  have := h.dead (by rw [← hg]; exact e)
  omega
theorem FInv.put (h : FInv s E p gn) (hp : (idsP s' ++ E').Perm ((p : Int) :: (idsP s ++ E))) (h0 : s.gone = false) (hg : s'.gone = false) : FInv s' E' (p + 1) gn := by
  have hl := hp.length_eq
  simp only [List.length_append, List.length_cons, idsP_len] at hl
  refine ⟨hp.nodup_iff.2 (List.nodup_cons.2 ⟨fun e => by have := h.rng _ e; omega, h.nd⟩), fun i hi => ?_, by have := h.cnt; omega, fun e => (by rw [hg] at e; cases e), fun _ => h.live h0⟩
  rcases List.mem_cons.1 (hp.mem_iff.1 hi) with rfl | hi
  · omega
  · have := h.rng i hi; omega
theorem FInv.out (h : FInv s E p gn) {i : Int} (hi : i ∈ idsP s) : i ∉ E ∧ 0 ≤ i ∧ i < p :=
  ⟨fun e => (List.nodup_append.1 h.nd).2.2 i hi i e rfl, h.rng i (by simp [hi])⟩
/-- What an act makes of it. -/
structure FStep (E : List Int) (p : Nat) (s' : LnS) (e : Bool) (id : Int) (p' gn' : Nat) : Prop where
  inv : FInv s' (if e then E ++ [id] else E) p' gn'
  fresh : e = true → id ∉ E ∧ 0 ≤ id ∧ id < p'
  up : p ≤ p' ∧ p' ≤ p + 1
theorem fates_no (h : FInv s E p gn) (id : Int) : FStep E p s false id p gn := ⟨h, fun e => (by cases e), by omega⟩
theorem fates_put (h : FInv s E p gn) (h1 : 1 ≤ s.room) (x : ItS) (hx : x.id = p) : ((putP s x).2.2.2 ≠ 0 ∧ FStep E p (putP s x).1 (putP s x).2.2.1 (putP s x).2.1 p gn) ∨ ((putP s x).2.2.2 = 0 ∧ FStep E p (putP s x).1 (putP s x).2.2.1 (putP s x).2.1 (p + 1) gn) := by
  rcases putP_eq s x with ⟨e1, e2, e3⟩ | ⟨hg, hw, hr, ht, e1, e2, e3, e4⟩
  · rw [e1, e3]
    exact Or.inl ⟨e2, fates_no h _⟩
  · refine Or.inr ⟨e1, ?_⟩
    rw [e2, e3, e4]
    by_cases hl : s.A.length < s.room
    · rw [if_pos hl, if_pos hl, decide_eq_false (by simpa using hl)]
      refine ⟨h.put ?_ hg hg, fun e => (by cases e), by omega⟩
      exact List.perm_iff_count.2 fun a => by simp [idsP, List.count_cons, hx]; omega
    · rw [if_neg hl, if_neg hl, decide_eq_true (by simpa using hl)]
      cases hA : s.A with
      | nil =>
        rw [hA] at hl
        exact absurd hl (by simp; omega)
      | cons y T =>
        refine ⟨h.put ?_ hg hg, fun _ => ?_, by omega⟩
        · exact List.perm_iff_count.2 fun a => by simp [idsP, List.count_cons, hx, hA]; omega
        · have := h.out (i := y.id) (by unfold idsP; rw [hA]; simp)
          exact ⟨this.1, this.2.1, by have := this.2.2; simp; omega⟩
theorem fates_choose (h : FInv s E p gn) : FStep E p (chooseP s).1 ((chooseP s).2.2.2 && ((chooseP s).2.2.1 != 0)) (chooseP s).2.1 p gn := by
  rcases chooseP_eq s with ⟨_, e⟩ | ⟨_, x, A, eA, _, e⟩
  · rw [e]
    exact fates_no h _
  · rw [e]
    generalize (takeP s.cur s.tgt x.layer x.key).1 = c'
    generalize (takeP s.cur s.tgt x.layer x.key).2.2 = fi
    generalize (takeP s.cur s.tgt x.layer x.key).2.1 = f
    by_cases hf : f = 0
    · subst hf
      refine ⟨h.move ?_ (by simp) rfl, fun e => by simp at e, by omega⟩
      exact List.perm_iff_count.2 fun a => by simp [idsP, List.count_cons, eA]; omega
    · have hb : (true && (f != 0)) = true := by simpa using hf
      simp only [hb, hf, if_true, if_false]
      refine ⟨h.move ?_ (by simp) rfl, fun _ => ?_, by omega⟩
      · exact List.perm_iff_count.2 fun a => by simp [idsP, List.count_cons, eA]; omega
      · exact h.out (by unfold idsP; rw [eA]; simp)
theorem fates_rewrite (h : FInv s E p gn) (h1 : 1 ≤ s.room) : FStep E p (rewriteP s).1 (rewriteP s).2.2.1 (rewriteP s).2.1 p gn := by
  rcases rewriteP_eq s with ⟨_, e⟩ | ⟨x, f, B, eB, e⟩
  · rw [e]
    exact fates_no h _
  · rw [e]
    by_cases hl : s.C.length < s.room
    · simp only [hl, if_true, not_true, decide_false]
      refine ⟨h.move ?_ (by simp) rfl, fun e => (by cases e), by omega⟩
      exact List.perm_iff_count.2 fun a => by simp [idsP, List.count_cons, eB]; omega
    · simp only [hl, if_false, not_false_iff, decide_true]
      cases hC : s.C with
      | nil =>
        rw [hC] at hl
        exact absurd hl (by simp; omega)
      | cons o T =>
        refine ⟨h.move ?_ (by simp) rfl, fun _ => ?_, by omega⟩
        · exact List.perm_iff_count.2 fun a => by simp [idsP, List.count_cons, eB, hC]; omega
        · exact h.out (i := o.1) (by unfold idsP; rw [hC]; simp)
theorem fates_write (h : FInv s E p gn) (acc : Bool) : ((writeP s acc).2.2.1 ≠ 7 ∧ FStep E p (writeP s acc).1 ((writeP s acc).2.2.2 && ((writeP s acc).2.2.1 == 1)) (writeP s acc).2.1 p gn) ∨ ((writeP s acc).2.2.1 = 7 ∧ FStep E p (writeP s acc).1 ((writeP s acc).2.2.2 && ((writeP s acc).2.2.1 == 1)) (writeP s acc).2.1 p (s.A.length + s.B.length + s.C.length)) := by
  rcases writeP_eq s acc with ⟨_, e⟩ | ⟨o, C, eC, ⟨ho, e⟩ | ⟨ha, hg, hb, e⟩⟩
  · rw [e]
    exact Or.inl ⟨by simp, fates_no h _⟩
  · rw [e]
    refine Or.inl ⟨by cases acc <;> simp, ?_⟩
    have hgo : (offerP s acc).2.1 = s.gone := by
      unfold offerP at ho ⊢
      cases hg : s.gone with
      | true => simp
      | false =>
        cases acc with
        | true => simp
        | false =>
          rw [hg] at ho
          simpa using ho
    cases acc with
    | true =>
      refine ⟨h.move ?_ (by simp) hgo, fun _ => ?_, by omega⟩
      · exact List.perm_iff_count.2 fun a => by simp [idsP, List.count_cons, eC]; omega
      · exact h.out (i := o.1) (by unfold idsP; rw [eC]; simp)
    | false =>
      refine ⟨h.move ?_ (by simp) hgo, fun e => by simp at e, by omega⟩
      exact List.perm_iff_count.2 fun a => by simp [idsP, List.count_cons, eC]
  · rw [e]
    refine Or.inr ⟨rfl, ⟨?_, fun e => by simp at e, by omega⟩⟩
    have hgn := h.live hg
    have hc := h.cnt
    refine ⟨?_, fun i hi => h.rng i ?_, ?_, fun _ => rfl, fun e => ?_⟩
    · exact (List.nodup_append.1 h.nd).2.1
    · have hi : i ∈ E := by simpa [idsP] using hi
      simp [hi]
    · simp [totP] at hc ⊢
      omega
    · have : (offerP s acc).2.1 = false := e
      rw [hb] at this
      cases this
theorem fates_want (h : FInv s E p gn) (n id : Int) : FStep E p (wantP s n).1 false id p gn := by
  rcases wantP_eq s n with e | ⟨_, e⟩
  · rw [e]; exact fates_no h _
  · rw [e]
    have h2 : FInv { s with wanted := true, cur := if s.wanted then s.cur else -1, tgt := n } E p gn := h.move (List.Perm.refl _) (Nat.le_refl _) rfl
    exact fates_no h2 _
end
end Go.Proofs.Ytdgmmffedhikcaa
