/- Merged from my texts LaneLp, LaneLw, ProbeP, ByteF, HeadC. -/
import Derived.Test.YtdgmmffedhikcaaMg29
import Derived.Test.YtdgmmffedhikcaaMg5
import Derived.Test.YtdgmmffedhikcaaMg6
import Derived.Test.YtdgmmffedhikcaaMg7
import Derived.IntWalk
/- What acts make of a lane's plain state. -/
namespace Go.Proofs.Ytdgmmffedhikcaa
set_option linter.unusedSimpArgs false
set_option linter.unusedVariables false
open Go.RowKit
set_option maxRecDepth 100000

section
variable (s : LnS)
theorem putP_eq (x : ItS) : (putP s x).1 = s ∧ (putP s x).2.2.2 ≠ 0 ∧ (putP s x).2.2.1 = false ∨ s.gone = false ∧ s.wanted = true ∧ rightH x.pk = true ∧ thereL x.layer = true ∧ (putP s x).2.2.2 = 0 ∧ (putP s x).1 = { s with A := if s.A.length < s.room then s.A ++ [x] else s.A.tail ++ [x] } ∧ (putP s x).2.1 = (if s.A.length < s.room then 0 else (s.A.head?.map (·.id)).getD 0) ∧ (putP s x).2.2.1 = decide (¬ s.A.length < s.room) := by
  unfold putP
  split
  · exact Or.inl ⟨rfl, by simp, rfl⟩
  · rename_i h1
    have h1 : thereL x.layer = true ∧ rightH x.pk = true := by simpa using h1
    split
    · exact Or.inl ⟨rfl, by simp, rfl⟩
    · rename_i h2
      split
      · exact Or.inl ⟨rfl, by simp, rfl⟩
      · rename_i h3
        refine Or.inr ⟨by simpa using h2, by simpa using h3, h1.2, h1.1, rfl, ?_, ?_, ?_⟩
        all_goals (unfold putL'; split <;> rename_i h4 <;> simp [h4])
theorem chooseP_eq : (mayP s 1 = false ∧ chooseP s = (s, 0, 0, false)) ∨ (mayP s 1 = true ∧ ∃ x A, s.A = x :: A ∧ s.B.length ≠ s.room ∧ chooseP s = ({ s with A := A, cur := (takeP s.cur s.tgt x.layer x.key).1, B := if (takeP s.cur s.tgt x.layer x.key).2.1 = 0 then s.B ++ [(x, (takeP s.cur s.tgt x.layer x.key).2.2)] else s.B }, x.id, (takeP s.cur s.tgt x.layer x.key).2.1, true)) := by
  cases hm : mayP s 1 with
  | false => exact Or.inl ⟨rfl, by unfold chooseP; rw [if_pos hm]⟩
  | true =>
    have h1 : (decide (0 < s.A.length) && decide (¬ s.B.length = s.room)) = true := hm
    rw [Bool.and_eq_true] at h1
    cases hA : s.A with
    | nil => rw [hA] at h1; simp at h1
    | cons x A => exact Or.inr ⟨rfl, x, A, rfl, by simpa using h1.2, by unfold chooseP; rw [if_neg (by rw [hm]; decide), hA]⟩
theorem rewriteP_eq : (s.B = [] ∧ rewriteP s = (s, 0, false, false)) ∨ (∃ x f B, s.B = (x, f) :: B ∧ rewriteP s = ({ s with B := B, rw := stepP s.rw x.pk f, C := if s.C.length < s.room then s.C ++ [(x.id, pkB (tellP s.rw x.pk f))] else s.C.tail ++ [(x.id, pkB (tellP s.rw x.pk f))] }, (if s.C.length < s.room then 0 else (s.C.head?.map (·.1)).getD 0), decide (¬ s.C.length < s.room), true)) := by
  cases hB : s.B with
  | nil => exact Or.inl ⟨rfl, by unfold rewriteP; rw [hB]⟩
  | cons y B =>
    obtain ⟨x, f⟩ := y
    refine Or.inr ⟨x, f, B, rfl, ?_⟩
    unfold rewriteP readyP
    rw [hB]
    by_cases h : s.C.length < s.room <;> simp [h]
theorem writeP_eq (acc : Bool) : (s.C = [] ∧ writeP s acc = (s, 0, 0, false)) ∨ (∃ o C, s.C = o :: C ∧ ((offerP s acc).2.2 = false ∧ writeP s acc = ({ s with C := if acc then C else o :: C, W := if acc then s.W ++ [o] else s.W, row := (offerP s acc).1, gone := (offerP s acc).2.1 }, o.1, (if acc then 1 else 0), true) ∨
    acc = false ∧ s.gone = false ∧ (offerP s acc).2.1 = true ∧ writeP s acc = ({ s with A := [], B := [], C := [], row := (offerP s acc).1, gone := (offerP s acc).2.1 }, o.1, 7, true))) := by
  cases hC : s.C with
  | nil => exact Or.inl ⟨rfl, by unfold writeP; rw [hC]⟩
  | cons o C =>
    refine Or.inr ⟨o, C, rfl, ?_⟩
    cases hb : (offerP s acc).2.2 with
    | false => exact Or.inl ⟨rfl, by unfold writeP; rw [hC]; simp [hb]⟩
    | true =>
      have hg : s.gone = false := by
        cases hg : s.gone with
        | false => rfl
        | true => unfold offerP at hb; rw [if_pos hg] at hb; simp at hb
      have ha : acc = false := by
        cases acc with
        | false => rfl
        | true => unfold offerP at hb; rw [if_neg (by rw [hg]; decide), if_pos rfl] at hb; simp at hb
      subst ha
      have h3 : (offerP s false).2.1 = (offerP s false).2.2 := by unfold offerP; rw [if_neg (by rw [hg]; decide)]; rfl
      exact Or.inr ⟨rfl, hg, by rw [h3]; exact hb, by unfold writeP; rw [hC]; simp [hb]⟩
theorem wantP_eq (n : Int) : (wantP s n).1 = s ∨ s.gone = false ∧ (wantP s n).1 = { s with wanted := true, cur := if s.wanted then s.cur else -1, tgt := n } := by
  unfold wantP
  split
  · exact Or.inl rfl
  · split
    · exact Or.inl rfl
    · rename_i h
      exact Or.inr ⟨by simpa using h, rfl⟩
/-- Act by act: room stays, and one is written at most. -/
theorem putP_frame (x : ItS) : (putP s x).1.room = s.room ∧ (putP s x).1.W = s.W := by
  rcases putP_eq s x with ⟨e, _⟩ | ⟨_, _, _, _, _, e, _⟩ <;> rw [e] <;> exact ⟨rfl, rfl⟩
theorem chooseP_frame : (chooseP s).1.room = s.room ∧ (chooseP s).1.W = s.W := by
  rcases chooseP_eq s with ⟨_, e⟩ | ⟨_, x, A, _, _, e⟩ <;> rw [e] <;> exact ⟨rfl, rfl⟩
theorem rewriteP_frame : (rewriteP s).1.room = s.room ∧ (rewriteP s).1.W = s.W := by
  rcases rewriteP_eq s with ⟨_, e⟩ | ⟨x, f, B, _, e⟩ <;> rw [e] <;> exact ⟨rfl, rfl⟩
theorem writeP_frame (acc : Bool) : (writeP s acc).1.room = s.room ∧ (writeP s acc).1.W.length ≤ s.W.length + 1 := by
  rcases writeP_eq s acc with ⟨_, e⟩ | ⟨o, C, _, ⟨_, e⟩ | ⟨_, _, _, e⟩⟩ <;> rw [e]
  · exact ⟨rfl, by simp⟩
  · refine ⟨rfl, ?_⟩
    cases acc <;> simp
  · exact ⟨rfl, by simp⟩
theorem wantP_frame (n : Int) : (wantP s n).1.room = s.room ∧ (wantP s n).1.W = s.W := by
  rcases wantP_eq s n with e | ⟨_, e⟩ <;> rw [e] <;> exact ⟨rfl, rfl⟩
theorem doP_frame (a : ActS) (id : Int) : (doP s a id).1.room = s.room ∧ (doP s a id).1.W.length ≤ s.W.length + 1 := by
  unfold doP
  split
  · have := putP_frame s { a.x with id := id }; exact ⟨this.1, by rw [this.2]; omega⟩
  · split
    · have := chooseP_frame s; exact ⟨this.1, by rw [this.2]; omega⟩
    · split
      · have := rewriteP_frame s; exact ⟨this.1, by rw [this.2]; omega⟩
      · split
        · exact writeP_frame s a.acc
        · split
          · have := wantP_frame s a.x.layer; exact ⟨this.1, by rw [this.2]; omega⟩
          · exact ⟨rfl, Nat.le_succ _⟩
def totP (s : LnS) : Nat := s.A.length + s.B.length + s.C.length
def roundP (s : LnS) : LnS := (writeP (rewriteP (chooseP s).1).1 true).1
theorem round_tot (h : 1 ≤ s.room) : totP (roundP s) ≤ totP s - 1 := by
  unfold roundP
  have hw : ∀ t : LnS, (writeP t true).1.A = t.A ∧ (writeP t true).1.B = t.B ∧ (writeP t true).1.C = t.C.tail := fun t => by
    rcases writeP_eq t true with ⟨e1, e⟩ | ⟨o, C, e1, ⟨_, e⟩ | ⟨ha, _⟩⟩
    · rw [e]; exact ⟨rfl, rfl, by rw [e1]; rfl⟩
    · rw [e, e1]; exact ⟨rfl, rfl, rfl⟩
    · cases ha
  obtain ⟨w1, w2, w3⟩ := hw (rewriteP (chooseP s).1).1
  unfold totP
  rw [w1, w2, w3, List.length_tail]
  clear w1 w2 w3 hw
  have hr : ∀ t : LnS, 1 ≤ t.room → (rewriteP t).1.A = t.A ∧ ((t.B = [] ∧ (rewriteP t).1 = t) ∨ ((rewriteP t).1.B.length + 1 = t.B.length ∧ 1 ≤ (rewriteP t).1.C.length ∧ (rewriteP t).1.C.length ≤ t.C.length + 1)) := fun t ht => by
    rcases rewriteP_eq t with ⟨e1, e⟩ | ⟨x, f, B, e1, e⟩
    · rw [e]; exact ⟨rfl, Or.inl ⟨e1, rfl⟩⟩
    · rw [e]
      refine ⟨rfl, Or.inr ⟨by rw [e1]; rfl, ?_, ?_⟩⟩
      · show 1 ≤ (if t.C.length < t.room then t.C ++ [_] else t.C.tail ++ [_]).length
        split <;> simp
      · show (if t.C.length < t.room then t.C ++ [_] else t.C.tail ++ [_]).length ≤ _
        split <;> simp <;> omega
  obtain ⟨r1, r2⟩ := hr (chooseP s).1 (by rw [(chooseP_frame s).1]; exact h)
  rw [r1]
  rcases chooseP_eq s with ⟨hm, e⟩ | ⟨hm, x, A, eA, eB, e⟩
  · rw [e] at r2 ⊢
    dsimp only at r2 ⊢
    rcases r2 with ⟨b0, rr⟩ | ⟨b1, b2, b3⟩
    · rw [rr]
      have hm2 : (decide (0 < s.A.length) && decide (¬ s.B.length = s.room)) = false := hm
      rw [b0] at hm2
      have ha : s.A.length = 0 := by
        by_cases h0 : 0 < s.A.length
        · simp [h0] at hm2
          omega
        · omega
      have := congrArg List.length b0
      simp only [List.length_nil] at this
      omega
    · omega
  · have hB : (chooseP s).1.B.length ≤ s.B.length + 1 := by
      rw [e]
      show (if _ then _ else _ : List _).length ≤ _
      split <;> simp
    have hC : (chooseP s).1.C = s.C := by rw [e]
    have hA : (chooseP s).1.A.length + 1 = s.A.length := by rw [e, eA]; rfl
    rcases r2 with ⟨b0, rr⟩ | ⟨b1, b2, b3⟩
    · rw [rr, hC, b0]
      simp only [List.length_nil]
      omega
    · rw [hC] at b3
      omega
theorem mays (hB : s.B.length ≤ s.room) (h : 1 ≤ s.room) : (mayP s 1 || mayP s 2 || mayP s 3) = !decide ([(s.A.length : Int), s.B.length, s.C.length] = [0, 0, 0]) := by
  have e : (mayP s 1 || mayP s 2 || mayP s 3) = ((decide (0 < s.A.length) && decide (¬ s.B.length = s.room)) || decide (0 < s.B.length) || decide (0 < s.C.length)) := rfl
  rw [e, Bool.eq_iff_iff]
  simp only [Bool.or_eq_true, Bool.and_eq_true, decide_eq_true_eq, Bool.not_eq_true', decide_eq_false_iff_not, List.cons.injEq, and_true]
  omega
end
end Go.Proofs.Ytdgmmffedhikcaa
/- The laws of lane: configs; a lane made. -/
namespace Go.Proofs.Ytdgmmffedhikcaa
set_option linter.unusedSimpArgs false
set_option linter.unusedVariables false
open Go.RowKit Go.ChangeShapes
set_option maxRecDepth 100000

structure CfS where
  room : Int
  most : Int
  src : Int
  sq : Int
  st : Int
def RCfg : Reader CfS := fun _ cs c => cs = [.int .i64 c.room, .int .i64 c.most, .int .u32 c.src, .int .u16 c.sq, .int .u32 c.st] ∧ U32 c.src ∧ U16 c.sq ∧ U32 c.st
def TCfg : Reader (Int × Int × Int × Int × Int × Unit) := RCons 1 (RInt .i64) (RCons 1 (RInt .i64) (RCons 1 (RInt .u32) (RCons 1 (RInt .u16) (RCons 1 (RInt .u32) RNil))))
theorem cfg_of_t {w : World} {cs : List Value} {y : Int × Int × Int × Int × Int × Unit} (hl : cs.length = 5) (h : TCfg w cs y) : ∃ z, RCfg w cs z := by
  match cs, hl with
  | [k0, k1, k2, k3, k4], _ =>
    obtain ⟨⟨r0, _⟩, ⟨r1, _⟩, ⟨r2, b2⟩, ⟨r3, b3⟩, ⟨r4, b4⟩, _⟩ := h
    simp at r0 r1 r2 r3 r4
    subst r0 r1 r2 r3 r4
    exact ⟨⟨_, _, _, _, _⟩, rfl, bounds_u32 b2, bounds_u16 b3, bounds_u32 b4⟩
theorem opensCfg : Opens Try.prog 25 RCfg := fun H enc w base spare held fuel cs x hx => by
  obtain ⟨y, hy⟩ := (Opens.struct (R := TCfg) Try.underlying25 (by kernel_rfl) (OpensF.cons rfl (by kernel_rfl) (Opens.int Try.underlying3) (OpensF.cons rfl (by kernel_rfl) (Opens.int Try.underlying3) (OpensF.cons rfl (by kernel_rfl) (Opens.int Try.underlying22) (OpensF.cons rfl (by kernel_rfl) (Opens.int Try.underlying23) (OpensF.cons rfl (by kernel_rfl) (Opens.int Try.underlying22) OpensF.nil)))))) H enc w base spare held fuel cs x hx
  refine cfg_of_t ?_ hy
  obtain ⟨_, _, _, _, hl, _⟩ := DataW.trod_struct Try.underlying25 hx
  rw [hl]
  kernel_rfl
theorem new_hF (w0 w : World) (m0 : More w0 w) (F : List Nat) (hF : ∀ b ∈ F, w0.heap.size ≤ b ∧ b < w.heap.size) (m mo src sq st : Int) (n : Nat) (hmn : m = n) (h1 : 1 ≤ n) (h2 : n ≤ 8) (h3 : 1 ≤ mo) (h4 : mo ≤ 10) (hq : U16 sq) (hs : U32 src) : Calls Try.prog 10 #[.agg #[.int .i64 m, .int .i64 mo, .int .u32 src, .int .u16 sq, .int .u32 st]] w fun e w' => ∃ L, e = .returned (.tuple #[.pointer (some ⟨L, 0, none⟩), .int .i64 0]) ∧ LnH w0 w' L (newL n mo src sq st) F ∧ More w w' := by
  refine (new_ln m mo src sq st n hmn h1 h2 h3 h4 hq hs w).mono ?_
  rintro e w' ⟨L, rfl, l, mm⟩
  refine ⟨L, rfl, ⟨_, l, fun b hb => Nat.le_trans m0.size hb.1, fun b hb => ?_, m0.trans mm⟩, mm⟩
  obtain ⟨h1, h2⟩ := hF b hb
  exact ⟨fun e => by omega, h1, Nat.lt_of_lt_of_le h2 mm.size⟩
/-- May such a lane be? -/
def cfgB (m mo : Int) : Bool := decide (1 ≤ m ∧ m ≤ 8 ∧ 1 ≤ mo ∧ mo ≤ 10)
theorem new_bad (m mo src sq st : Int) (h : cfgB m mo = false) (w : World) : Calls Try.prog 10 #[.agg #[.int .i64 m, .int .i64 mo, .int .u32 src, .int .u16 sq, .int .u32 st]] w fun e w' => e = .returned (.tuple #[.pointer none, .int .i64 1]) ∧ More w w' := by
  have h := of_decide_eq_false h
  by_cases h1 : m < 1 ∨ 8 < m
  · exact new_ln_room m mo src sq st h1 w
  · exact new_ln_most m mo src sq st m.toNat (by omega) (by omega) (by omega) (by omega) w
end Go.Proofs.Ytdgmmffedhikcaa
/- Descriptions: the plain law. -/
namespace Go.Proofs.Ytdgmmffedhikcaa
set_option linter.unusedSimpArgs false
set_option linter.unusedVariables false
open Go.RowKit
set_option maxRecDepth 100000

/-- A description. -/
structure Ds where
  lo : Bool
  st : Bool
  pt : Int
  pic : Int
  wd : Bool
  bs : Int
  tr : Int
  sy : Bool
  ky : Int
def ds0 : Ds := ⟨false, false, 0, 0, false, 0, 0, false, 0⟩
def rightD (d : Ds) : Bool :=
  decide (d.pt ≤ 7) && (decide (-1 ≤ d.pic) && decide (d.pic ≤ if d.wd then 32767 else 127)) && (decide (-1 ≤ d.bs) && decide (d.bs ≤ 255)) && (decide (-1 ≤ d.tr) && decide (d.tr ≤ 3)) && (decide (-1 ≤ d.ky) && decide (d.ky ≤ 31)) && !(d.wd && decide (d.pic = -1)) && !(d.sy && decide (d.tr = -1))
theorem rightD_iff (d : Ds) : rightD d = true ↔ d.pt ≤ 7 ∧ (-1 ≤ d.pic ∧ d.pic ≤ if d.wd then 32767 else 127) ∧ (-1 ≤ d.bs ∧ d.bs ≤ 255) ∧ (-1 ≤ d.tr ∧ d.tr ≤ 3) ∧ (-1 ≤ d.ky ∧ d.ky ≤ 31) ∧ (d.wd = true → d.pic ≠ -1) ∧ (d.sy = true → d.tr ≠ -1) := by
  unfold rightD
  cases d.wd <;> cases d.sy <;> simp [and_assoc]
def b1 (b : Bool) (n : Int) : Int := if b then n else 0
/-- Which numbers are told. -/
def toldD (d : Ds) : Int := b1 (decide (d.pic ≠ -1)) 128 + b1 (decide (d.bs ≠ -1)) 64 + b1 (decide (d.tr ≠ -1)) 32 + b1 (decide (d.ky ≠ -1)) 16
def oneD (d : Ds) : Int := d.pt + b1 (decide (toldD d ≠ 0)) 128 + b1 d.lo 32 + b1 d.st 16
def lastD (d : Ds) : Int := 64 * max 0 d.tr + max 0 d.ky + b1 d.sy 32
def dsB (d : Ds) : List Int :=
  bysA (oneD d) 1 ++ (if toldD d ≠ 0 then bysA (toldD d) 1 else []) ++ (if d.wd then bysA (32768 + d.pic) 2 else if d.pic ≠ -1 then bysA d.pic 1 else []) ++ (if d.bs ≠ -1 then bysA d.bs 1 else []) ++ (if d.tr ≠ -1 ∨ d.ky ≠ -1 then bysA (lastD d) 1 else [])
def writeD (d : Ds) : List Int × Int := if rightD d then (dsB d, 0) else ([], 1)

def nB (s : RdS) : Int := num (tkB s.1 1)
def bit (n k : Int) : Bool := decide (n / k % 2 = 1)
/-- Which numbers are told; behind the first two bytes. -/
def headD (s : RdS) : Int × Int × RdS := if bit (nB s) 128 then (nB s, nB (tkS s 1), tkS (tkS s 1) 1) else (nB s, 0, tkS s 1)
def picD (t : Int) (s : RdS) : (Int × Bool) × RdS := if bit t 128 then (if nB s < 128 then ((nB s, false), tkS s 1) else (((nB s - 128) * 256 + nB (tkS s 1), true), tkS (tkS s 1) 1)) else ((-1, false), s)
def basD (t : Int) (s : RdS) : Int × RdS := if bit t 64 then (nB s, tkS s 1) else (-1, s)
def bothD (t : Int) (s : RdS) : Int × RdS := if bit t 32 || bit t 16 then (nB s, tkS s 1) else (0, s)
def mkD (f t : Int) (p : Int × Bool) (b q : Int) : Ds := ⟨bit f 32, bit f 16, f % 8, p.1, p.2, b, if bit t 32 then q / 64 else -1, bit t 32 && bit q 32, if bit t 16 then q % 32 else -1⟩
def restD (f t : Int) (s : RdS) : Ds × RdS :=
  (mkD f t (picD t s).1 (basD t (picD t s).2).1 (bothD t (basD t (picD t s).2).2).1, (bothD t (basD t (picD t s).2).2).2)
def endD (n : Int) (x : Ds × RdS) : Ds × Int × Int := if x.2.2 = 3 then (ds0, 0, 3) else (x.1, n - x.2.1.length, 0)
def readD (b : List Int) : Ds × Int × Int := endD b.length (restD (headD (b, 0)).1 (headD (b, 0)).2.1 (headD (b, 0)).2.2)
/-- Does a payload begin a keyframe? -/
def beginsD (b : List Int) : Bool :=
  decide ((readD b).2.2 = 0) && (readD b).1.st && decide ((readD b).1.pt = 0) && decide ((readD b).2.1 < b.length) && decide (b.getD (readD b).2.1.toNat 0 % 2 = 0)
end Go.Proofs.Ytdgmmffedhikcaa
/- Bytes: bits that are asked, and laid. -/
namespace Go.Proofs.Ytdgmmffedhikcaa
set_option linter.unusedSimpArgs false
set_option linter.unusedVariables false
open Go.RowKit
set_option maxRecDepth 100000

theorem orB : ∀ m : Fin 256, ((m.val : Int) / 128 % 2 = 0 → bits .or .u8 (m.val : Int) 128 = (m.val : Int) + 128) ∧ ((m.val : Int) / 64 % 2 = 0 → bits .or .u8 (m.val : Int) 64 = (m.val : Int) + 64) ∧ ((m.val : Int) / 32 % 2 = 0 → bits .or .u8 (m.val : Int) 32 = (m.val : Int) + 32) ∧ ((m.val : Int) / 16 % 2 = 0 → bits .or .u8 (m.val : Int) 16 = (m.val : Int) + 16) := of_decide_eq_true (by kernel_rfl)
theorem orB' {x : Int} (h : 0 ≤ x ∧ x ≤ 255) : (x / 128 % 2 = 0 → bits .or .u8 x 128 = x + 128) ∧ (x / 64 % 2 = 0 → bits .or .u8 x 64 = x + 64) ∧ (x / 32 % 2 = 0 → bits .or .u8 x 32 = x + 32) ∧ (x / 16 % 2 = 0 → bits .or .u8 x 16 = x + 16) := by
  obtain ⟨m, rfl⟩ := Int.eq_ofNat_of_zero_le h.1
  exact orB ⟨m, by omega⟩
theorem andB : ∀ m : Fin 256, (bits .and .u8 (m.val : Int) 128 = if bit (m.val : Int) 128 then 128 else 0) ∧ (bits .and .u8 (m.val : Int) 64 = if bit (m.val : Int) 64 then 64 else 0) ∧ (bits .and .u8 (m.val : Int) 32 = if bit (m.val : Int) 32 then 32 else 0) ∧ (bits .and .u8 (m.val : Int) 16 = if bit (m.val : Int) 16 then 16 else 0) ∧ bits .and .u8 (m.val : Int) 7 = (m.val : Int) % 8 ∧ ((bits .and .u8 (m.val : Int) 48 != 0) = (bit (m.val : Int) 32 || bit (m.val : Int) 16)) := of_decide_eq_true (by kernel_rfl)
theorem andB' {x : Int} (h : 0 ≤ x ∧ x ≤ 255) : (bits .and .u8 x 128 = if bit x 128 then 128 else 0) ∧ (bits .and .u8 x 64 = if bit x 64 then 64 else 0) ∧ (bits .and .u8 x 32 = if bit x 32 then 32 else 0) ∧ (bits .and .u8 x 16 = if bit x 16 then 16 else 0) ∧ bits .and .u8 x 7 = x % 8 ∧ ((bits .and .u8 x 48 != 0) = (bit x 32 || bit x 16)) := by
  obtain ⟨m, rfl⟩ := Int.eq_ofNat_of_zero_le h.1
  exact andB ⟨m, by omega⟩
theorem andB2 : ∀ m : Fin 256, ((bits .and .u8 (m.val : Int) 128 != 0) = bit (m.val : Int) 128) ∧ ((bits .and .u8 (m.val : Int) 64 != 0) = bit (m.val : Int) 64) ∧ ((bits .and .u8 (m.val : Int) 32 != 0) = bit (m.val : Int) 32) ∧ ((bits .and .u8 (m.val : Int) 16 != 0) = bit (m.val : Int) 16) := of_decide_eq_true (by kernel_rfl)
theorem andB2' {x : Int} (h : 0 ≤ x ∧ x ≤ 255) : ((bits .and .u8 x 128 != 0) = bit x 128) ∧ ((bits .and .u8 x 64 != 0) = bit x 64) ∧ ((bits .and .u8 x 32 != 0) = bit x 32) ∧ ((bits .and .u8 x 16 != 0) = bit x 16) := by
  obtain ⟨m, rfl⟩ := Int.eq_ofNat_of_zero_le h.1
  exact andB2 ⟨m, by omega⟩
end Go.Proofs.Ytdgmmffedhikcaa
/- Packets are read: the state, and unpad. -/
namespace Go.Proofs.Ytdgmmffedhikcaa
set_option linter.unusedSimpArgs false
set_option linter.unusedVariables false
open Go.RowKit
set_option maxRecDepth 100000

theorem and127 : ∀ m : Fin 256, bits .and .u8 (m.val : Int) 127 = (m.val : Int) % 128 ∧ bits .and .u8 (m.val : Int) 15 = (m.val : Int) % 16 := of_decide_eq_true (by kernel_rfl)
theorem and127' {x : Int} (h : 0 ≤ x ∧ x ≤ 255) : bits .and .u8 x 127 = x % 128 ∧ bits .and .u8 x 15 = x % 16 := by
  obtain ⟨m, rfl⟩ := Int.eq_ofNat_of_zero_le h.1
  exact and127 ⟨m, by omega⟩
/-- A reader, the result's place, and the packet that is filled. -/
structure HdS (w0 w : World) (R hi Br Bd : Nat) (s : RdS) (q : Pk) (vs ve vp : Value) : Prop where
  rd : ReaderAt w R s.1 s.2 (fun g => g < hi)
  more : More w0 w
  br : w.heap[Br]? = some (.cells #[.bool false, .int .u8 0, .int .u16 0, .int .u32 0, .int .u32 0, .slice none 0 0, .bool false, .int .u16 0, .slice none 0 0, .slice none 0 0] 39 (0, 0))
  bd : w.heap[Bd]? = some (.cells #[.bool q.mr, .int .u8 q.ty, .int .u16 q.sq, .int .u32 q.st, .int .u32 q.sc, vs, .bool q.has, .int .u16 q.pr, ve, vp] 39 (0, 0))
  rs : w.ownsRow (Bd + 1) 22 1 vs q.ss.length (q.ss.map (Value.int .u32))
  re : w.ownsRow (Bd + 1) 5 1 ve q.ex.length (q.ex.map (Value.int .u8))
  rp : w.ownsRow (Bd + 1) 5 1 vp q.pl.length (q.pl.map (Value.int .u8))
  n0 : w0.heap.size ≤ Br
  nR : Br < R
  n1 : R < hi
  n5 : hi ≤ Bd
theorem HdS.step {w0 w w' : World} {R hi Br Bd : Nat} {s s' : RdS} {q : Pk} {vs ve vp : Value} (h : HdS w0 w R hi Br Bd s q vs ve vp) (r : ReaderAt w' R s'.1 s'.2 (fun g => g < hi)) (a : Away (fun b => b = R) w w') : HdS w0 w' R hi Br Bd s' q vs ve vp := by
  have := h.n0; have := h.nR; have := h.n1; have := h.n5
  exact ⟨r, Away.to_more h.more a (fun k hk => by omega), a.blk h.br (by omega), a.blk h.bd (by omega), owns_away h.rs a (fun k hk => by omega), owns_away h.re a (fun k hk => by omega), owns_away h.rp a (fun k hk => by omega), h.n0, h.nR, h.n1, h.n5⟩
theorem HdS.on {w0 w w' : World} {R hi Br Bd : Nat} {s : RdS} {q : Pk} {vs ve vp : Value} (h : HdS w0 w R hi Br Bd s q vs ve vp) (m : More w w') : HdS w0 w' R hi Br Bd s q vs ve vp :=
  ⟨h.rd.more m, h.more.trans m, blk_more m h.br, blk_more m h.bd, owns_more h.rs m, owns_more h.re m, owns_more h.rp m, h.n0, h.nR, h.n1, h.n5⟩
/-- A cell of the packet is filled. -/
theorem HdS.fill {w0 w : World} {R hi Br Bd : Nat} {s : RdS} {q q' : Pk} {vs ve vp vs' ve' vp' : Value} (h : HdS w0 w R hi Br Bd s q vs ve vp) (i : Nat) (v : Value)
    (hc : (#[.bool q.mr, .int .u8 q.ty, .int .u16 q.sq, .int .u32 q.st, .int .u32 q.sc, vs, .bool q.has, .int .u16 q.pr, ve, vp] : Array Value).setIfInBounds i v = #[.bool q'.mr, .int .u8 q'.ty, .int .u16 q'.sq, .int .u32 q'.st, .int .u32 q'.sc, vs', .bool q'.has, .int .u16 q'.pr, ve', vp'])
    (rs : w.ownsRow (Bd + 1) 22 1 vs' q'.ss.length (q'.ss.map (Value.int .u32))) (re : w.ownsRow (Bd + 1) 5 1 ve' q'.ex.length (q'.ex.map (Value.int .u8))) (rp : w.ownsRow (Bd + 1) 5 1 vp' q'.pl.length (q'.pl.map (Value.int .u8))) :
    HdS w0 (w.setCell ⟨Bd, i, none⟩ v) R hi Br Bd s q' vs' ve' vp' := by
  have := h.n0; have := h.nR; have := h.n1; have := h.n5
  have a : Away (fun b => b = Bd) w (w.setCell ⟨Bd, i, none⟩ v) := (Away.refl (fun b => b = Bd) w).set (p := ⟨Bd, i, none⟩) rfl _
  exact ⟨h.rd.off a (by omega) (fun g hg e => by omega), h.more.st (p := ⟨Bd, i, none⟩) (by show _ ≤ Bd; omega) _, a.blk h.br (by omega), blk_eq (blk_set h.bd i v) hc, owns_away rs a (fun k hk => by omega), owns_away re a (fun k hk => by omega), owns_away rp a (fun k hk => by omega), h.n0, h.nR, h.n1, h.n5⟩
/-- A scalar of the packet is filled. -/
theorem HdS.scal {w0 w : World} {R hi Br Bd : Nat} {s : RdS} {q : Pk} {vs ve vp : Value} (h : HdS w0 w R hi Br Bd s q vs ve vp) (i : Nat) (v : Value) (q' : Pk)
    (hc : (#[.bool q.mr, .int .u8 q.ty, .int .u16 q.sq, .int .u32 q.st, .int .u32 q.sc, vs, .bool q.has, .int .u16 q.pr, ve, vp] : Array Value).setIfInBounds i v = #[.bool q'.mr, .int .u8 q'.ty, .int .u16 q'.sq, .int .u32 q'.st, .int .u32 q'.sc, vs, .bool q'.has, .int .u16 q'.pr, ve, vp]) (h1 : q'.ss = q.ss) (h2 : q'.ex = q.ex) (h3 : q'.pl = q.pl) : HdS w0 (w.setCell ⟨Bd, i, none⟩ v) R hi Br Bd s q' vs ve vp :=
  h.fill i v hc (by rw [h1]; exact h.rs) (by rw [h2]; exact h.re) (by rw [h3]; exact h.rp)
theorem HdS.begin {w w2 : World} {b : List Int} {R : Nat} {Z : Array Value} (hz : Z = #[.bool false, .int .u8 0, .int .u16 0, .int .u32 0, .int .u32 0, .slice none 0 0, .bool false, .int .u16 0, .slice none 0 0, .slice none 0 0]) (hR : (w.alloc (.cells Z 39)).heap.size ≤ R)
    (r : ReaderAt w2 R b 0 (fun g => (w.alloc (.cells Z 39)).heap.size ≤ g ∧ g < w2.heap.size)) (m : More (w.alloc (.cells Z 39)) w2) :
    HdS w (w2.alloc (.cells #[.bool false, .int .u8 0, .int .u16 0, .int .u32 0, .int .u32 0, .slice none 0 0, .bool false, .int .u16 0, .slice none 0 0, .slice none 0 0] 39)) R w2.heap.size w.heap.size w2.heap.size (b, 0) pk0 (.slice none 0 0) (.slice none 0 0) (.slice none 0 0) := by
  subst hz
  have hlt : R < w2.heap.size := by obtain ⟨v, h1, _⟩ := r.blk; exact blk_lt h1
  have hs : (w.alloc (.cells #[.bool false, .int .u8 0, .int .u16 0, .int .u32 0, .int .u32 0, .slice none 0 0, .bool false, .int .u16 0, .slice none 0 0, .slice none 0 0] 39)).heap.size = w.heap.size + 1 := by simp
  exact ⟨(r.mono fun g h => h.2).more (More.alloc _ _), ((More.alloc _ _).trans m).al _, blk_alloc (blk_more m (blk_new w _)) _, blk_new w2 _, World.ownsRow_nil _ _ _ _, World.ownsRow_nil _ _ _ _, World.ownsRow_nil _ _ _ _, Nat.le_refl _, by omega, hlt, Nat.le_refl _⟩
theorem owns_take {w : World} {base e n : Nat} {oa : Option Addr} {m cap : Nat} {l : List Int} {k : IntKind} (h : w.ownsRow base e 1 (.slice oa m cap) l.length (l.map (Value.int k))) (hm : n ≤ l.length) (h0 : 0 < l.length) : w.ownsRow base e 1 (.slice oa n cap) (l.take n).length ((l.take n).map (Value.int k)) := by
  obtain ⟨h1, h2⟩ := h
  have hl : (l.take n).length = n := by rw [List.length_take]; omega
  rcases h2 with ⟨_, h3⟩ | ⟨g, cap', cur, e1, hb, hg, hc, hx, hs, ht⟩
  · omega
  · cases e1
    refine ⟨by simp, Or.inr ⟨g, _, cur, by rw [hl], hb, hg, by rw [hl]; omega, hx, hs, ?_⟩⟩
    rw [hl, Nat.mul_one, List.map_take, ← ht, List.take_take, Nat.mul_one, Nat.min_eq_left hm]
set_option maxHeartbeats 2000000 in
theorem UnpadH_any (oa : Option Addr) (cap : Nat) (b : List Int) (base : Nat) (w : World) (h : w.ownsRow base 5 1 (.slice oa b.length cap) b.length (b.map (Value.int .u8))) (hb : Byt b) (hl : b.length ≤ 1000000) :
    Calls Try.prog 65 #[.slice oa b.length cap] w fun e w' => (∃ v, e = .returned (.tuple #[v, .bool (unpadH b).2]) ∧ w.ownsRow base 5 1 v (unpadH b).1.length ((unpadH b).1.map (Value.int .u8))) ∧ w = w' := by
  have HO := Lib.hid h
  obtain ⟨oa', cap', ev, hlv, hel, hcap, _⟩ := SlI.of_owns h (by omega)
  cases ev
  have hn : (∃ v, (Ending.returned (.tuple #[.slice none 0 0, .bool false])) = .returned (.tuple #[v, .bool false]) ∧ w.ownsRow base 5 1 v ([] : List Int).length (([] : List Int).map (Value.int .u8))) := ⟨_, rfl, World.ownsRow_nil _ _ _ _⟩
  have HN := Lib.hid hn
  clear hn
  by_cases h0 : b.length = 0
  · have e : unpadH b = ([], false) := by unfold unpadH; rw [if_pos (List.length_eq_zero_iff.1 h0)]
    rw [e]
    have h0i : (b.length : Int) = 0 := by omega
    clear hel h e hcap
    go_enter Try.func65, Try.ntmps65
    go_wp2
    go_ret2
    exact ⟨HN.out, rfl⟩
  · obtain ⟨bb, off, rfl, hbw, hc⟩ := hel (b.length - 1) (by omega)
    have hx := hb (b.length - 1)
    have h0i : ((b.length : Int) == 0) = false := by rw [beq_eq_false_iff_ne]; omega
    have hne : ¬ b = [] := fun e => h0 (by rw [e]; rfl)
    have e : unpadH b = if b.getD (b.length - 1) 0 = 0 ∨ (b.length : Int) < b.getD (b.length - 1) 0 then ([], false) else (b.take (b.length - (b.getD (b.length - 1) 0).toNat), true) := by unfold unpadH; rw [if_neg hne]
    have hi : ((b.length : Int) - 1).toNat = b.length - 1 := by omega
    have hlt : (b.length : Int) - 1 < (b.length : Int) := by omega
    have hge : 0 ≤ (b.length : Int) - 1 := by omega
    have hge2 : 1 ≤ (b.length : Int) := by omega
    generalize b.getD (b.length - 1) 0 = x at *
    obtain ⟨x0, x1⟩ := hx
    by_cases hx0 : x = 0
    · rw [if_pos (Or.inl hx0)] at e
      rw [e]
      subst hx0
      clear hel h e hcap h0 hne
      go_enter Try.func65, Try.ntmps65
      go_wp2
      go_ret2
      exact ⟨HN.out, rfl⟩
    · have hx0' : (x == 0) = false := by simpa using hx0
      by_cases hxl : (b.length : Int) < x
      · rw [if_pos (Or.inr hxl)] at e
        rw [e]
        clear hel h e hcap h0 hne hx0
        go_enter Try.func65, Try.ntmps65
        go_wp2
        go_ret2
        exact ⟨HN.out, rfl⟩
      · rw [if_neg (by omega)] at e
        rw [e]
        have s0 : 0 ≤ (b.length : Int) - x := by omega
        have s1 : (b.length : Int) - x ≤ (cap : Int) := by omega
        have s2 : ((b.length : Int) - x).toNat = b.length - x.toNat := by omega
        have HP := Lib.hid (owns_take HO.out (n := b.length - x.toNat) (by omega) (by omega))
        have S2 := Lib.hid s2
        clear hel h e h0 hne hx0 hcap
        go_enter Try.func65, Try.ntmps65
        go_wp2
        go_ret2
        exact ⟨⟨.slice (some ⟨bb, off, none⟩) (b.length - x.toNat) cap, by first | rfl | rw [S2.out], by have := HP.out; rw [List.length_take, List.map_take, Nat.min_eq_left (Nat.sub_le _ _)] at this; exact this⟩, rfl⟩
end Go.Proofs.Ytdgmmffedhikcaa
