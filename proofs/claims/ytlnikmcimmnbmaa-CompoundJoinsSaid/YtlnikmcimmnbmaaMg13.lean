/- Merged from my texts FeedQ. -/
import Derived.Test.YtlnikmcimmnbmaaMg12
/- Feedback messages: what is written, and read; plain laws. -/
namespace Go.Proofs.Ytlnikmcimmnbmaa
set_option linter.unusedSimpArgs false
set_option linter.unusedVariables false
open Go.RowKit
set_option maxRecDepth 100000

structure Msg where
  kind : Int
  snd : Int
  med : Int
  asks : List (Int × Int)
  lost : List Int
def Msg.tup (b : Msg) : Int × Int × Int × List (Int × Int) × List Int := (b.kind, b.snd, b.med, b.asks, b.lost)
theorem Msg.tup_inj {a b : Msg} (h : a.tup = b.tup) : a = b := by
  obtain ⟨⟩ := a
  obtain ⟨⟩ := b
  simp only [Msg.tup, Prod.mk.injEq] at h
  simp [h]
instance : DecidableEq Msg := fun _ _ => decidable_of_iff _ ⟨Msg.tup_inj, fun h => by rw [h]⟩
structure MsgOK (m : Msg) : Prop where
  snd : U32 m.snd
  med : U32 m.med
  asks : ∀ a ∈ m.asks, U32 a.1 ∧ U8 a.2
  lost : ∀ x ∈ m.lost, U16 x
def msg0 : Msg := ⟨0, 0, 0, [], []⟩
theorem msg0_ok : MsgOK msg0 := ⟨by decide, by decide, (fun a h => by cases h), (fun a h => by cases h)⟩
def rightM (m : Msg) : Bool :=
  if m.kind = 1 then decide (m.asks = [] ∧ m.lost = [])
  else if m.kind = 2 then decide (m.med = 0 ∧ 1 ≤ m.asks.length ∧ m.asks.length ≤ 23 ∧ m.lost = [])
  else if m.kind = 3 then decide (m.asks = [] ∧ 1 ≤ m.lost.length ∧ riseB m.lost = true ∧ (pairsF m.lost).length ≤ 47)
  else false
def askB (a : Int × Int) : List Int := bysA a.1 4 ++ (bysA a.2 1 ++ bysA 0 3)
def prB (p : Int × Int) : List Int := bysA p.1 2 ++ bysA p.2 2
def asB (l : List (Int × Int)) : List Int := l.flatMap askB
def psB (l : List (Int × Int)) : List Int := l.flatMap prB
def msgB (m : Msg) : List Int := bysA m.snd 4 ++ (bysA m.med 4 ++ (asB m.asks ++ psB (pairsF m.lost)))
/-- Type and Count. -/
def formM (k : Int) : Int × Int := if k = 1 then (206, 1) else if k = 2 then (206, 4) else (205, 1)
def writeM (m : Msg) : Chunk × Int := if rightM m then (((formM m.kind).2, (formM m.kind).1, msgB m, ()), 0) else ((0, 0, [], ()), 1)
def kindC (c : Chunk) : Int := if c.2.1 = 206 ∧ c.1 = 1 then 1 else if c.2.1 = 206 ∧ c.1 = 4 then 2 else if c.2.1 = 205 ∧ c.1 = 1 then 3 else 0
def askS (s : RdS) : (Int × Int) × RdS := ((rdNum s, num (tkB (tkS s 4).1 1)), tkS (tkS (tkS s 4) 1) 3)
def readAsksF : Nat → List (Int × Int) → RdS → List (Int × Int) × RdS
  | 0, acc, s => (acc, s)
  | n + 1, acc, s => if s.1 = [] then (acc, s) else readAsksF n (acc ++ [(askS s).1]) (askS s).2
def prS (s : RdS) : (Int × Int) × RdS := ((num (tkB s.1 2), num (tkB (tkS s 2).1 2)), tkS (tkS s 2) 2)
/-- Behind a pair: is it newer? -/
def newS (acc : List Int) (p : Int × Int) (s : RdS) : RdS := if ¬ acc = [] ∧ ¬ 0 < ahd (acc.getLastD 0) p.1 then wrS s 2 else s
def readLostF : Nat → List Int → RdS → List Int × RdS
  | 0, acc, s => (acc, s)
  | n + 1, acc, s => if s.1 = [] then (acc, s) else readLostF n (acc ++ prN (prS s).1) (newS acc (prS s).1 (prS s).2)
def asksS (b : Int) (s : RdS) : RdS := if ¬ b = 0 ∨ s.1.length = 0 ∨ ¬ s.1.length % 8 = 0 then wrS s 2 else s
def lostS (s : RdS) : RdS := if s.1.length = 0 then wrS s 2 else s
def doneM (m : Msg) (s : RdS) : Msg × Int := if endS s = 0 then (m, 0) else (msg0, endS s)
def restM (k a b : Int) (s : RdS) : Msg × Int :=
  if k = 2 then doneM ⟨2, a, b, (readAsksF s.1.length [] (asksS b s)).1, []⟩ (readAsksF s.1.length [] (asksS b s)).2
  else if k = 3 then doneM ⟨3, a, b, [], (readLostF s.1.length [] (lostS s)).1⟩ (readLostF s.1.length [] (lostS s)).2
  else doneM ⟨k, a, b, [], []⟩ s
def readM (c : Chunk) : Msg × Int :=
  if rightB c = false then (msg0, 1)
  else if kindC c = 0 then (msg0, 5)
  else restM (kindC c) (rdNum (c.2.2.1, 0)) (rdNum (tkS (c.2.2.1, 0) 4)) (tkS (tkS (c.2.2.1, 0) 4) 4)

theorem endS_zero {s : RdS} (h : endS s = 0) : s = ([], 0) := by
  obtain ⟨l, e⟩ := s
  unfold endS at h
  by_cases he : e = 0
  · subst he
    simp only [not_true, if_false] at h
    split at h
    · cases h
    · rename_i hl
      have : l = [] := List.eq_nil_of_length_eq_zero (by omega)
      rw [this]
  · rw [if_pos he] at h
    exact absurd h he
theorem wrS_two (s : RdS) : ¬ (wrS s 2).2 = 0 := wrS_ne s
theorem adv_bad {s : RdS} {n : Nat} (h : s.2 = 0) (hn : s.1.length < n) : adv s n = ([], 3) := by
  unfold adv; rw [if_pos h, if_neg (by omega)]
theorem adv_ok {s : RdS} {n : Nat} (h : s.2 = 0) (hn : n ≤ s.1.length) : adv s n = (s.1.drop n, 0) := by
  unfold adv; rw [if_pos h, if_pos hn]
theorem askS_adv {s : RdS} (h : Shut s) : (askS s).2 = adv s 8 := by
  show tkS (tkS (tkS s (4 : Nat)) (1 : Nat)) (3 : Nat) = _
  rw [tkS_adv 4 h, tkS_adv2, tkS_adv2]
theorem prS_adv {s : RdS} (h : Shut s) : (prS s).2 = adv s 4 := by
  show tkS (tkS s (2 : Nat)) (2 : Nat) = _
  rw [tkS_adv 2 h, tkS_adv2]
theorem shut_ok (l : List Int) : Shut (l, 0) := fun h => absurd rfl h
theorem readAsksF_nil (n : Nat) (acc : List (Int × Int)) (e : Int) : readAsksF n acc ([], e) = (acc, ([], e)) := by
  cases n with
  | zero => rfl
  | succ n => unfold readAsksF; rw [if_pos rfl]
theorem readLostF_nil (n : Nat) (acc : List Int) (e : Int) : readLostF n acc ([], e) = (acc, ([], e)) := by
  cases n with
  | zero => rfl
  | succ n => unfold readLostF; rw [if_pos rfl]
/-- Asks come back. -/
theorem askS_askB (a : Int × Int) (h1 : U32 a.1) (h2 : U8 a.2) (r : List Int) : askS (askB a ++ r, 0) = (a, (r, 0)) := by
  unfold askB
  simp only [List.append_assoc]
  obtain ⟨a1, b1⟩ := rdNum_bysA a.1 h1 (bysA a.2 1 ++ (bysA 0 3 ++ r))
  obtain ⟨b2, a2⟩ := tkS_bysA a.2 1 (by decide) (bysA 0 3 ++ r)
  obtain ⟨b3, _⟩ := tkS_bysA 0 3 (by decide) r
  have b2 : tkS (bysA a.2 1 ++ (bysA 0 3 ++ r), 0) 1 = (bysA 0 3 ++ r, 0) := b2
  have a2 : tkB (bysA a.2 1 ++ (bysA 0 3 ++ r)) 1 = bysA a.2 1 := a2
  have b3 : tkS (bysA 0 3 ++ r, 0) 3 = (r, 0) := b3
  have n2 : num (bysA a.2 1) = a.2 := num_bysA a.2 1 h2.1 (by decide) (by have := h2.2; show a.2 < 256; omega)
  unfold askS
  rw [a1, b1, b2, b3]
  simp only [a2, n2]
theorem askB_len (a : Int × Int) : (askB a).length = 8 := by
  unfold askB
  simp only [List.length_append, bysA_len2 _ _ (show (0 : Int) ≤ 4 ∧ (4 : Int) ≤ 8 by decide), bysA_len2 _ _ (show (0 : Int) ≤ 1 ∧ (1 : Int) ≤ 8 by decide), bysA_len2 _ _ (show (0 : Int) ≤ 3 ∧ (3 : Int) ≤ 8 by decide)]
  decide
theorem prB_len (a : Int × Int) : (prB a).length = 4 := by
  unfold prB
  simp only [List.length_append, bysA_len2 _ _ (show (0 : Int) ≤ 2 ∧ (2 : Int) ≤ 8 by decide)]
  decide
theorem asB_cons (a : Int × Int) (l : List (Int × Int)) : asB (a :: l) = askB a ++ asB l := rfl
theorem psB_cons (a : Int × Int) (l : List (Int × Int)) : psB (a :: l) = prB a ++ psB l := rfl
theorem asB_len (l : List (Int × Int)) : (asB l).length = 8 * l.length := by
  induction l with
  | nil => rfl
  | cons b l ih => rw [asB_cons, List.length_append, askB_len, ih, List.length_cons]; omega
theorem psB_len (l : List (Int × Int)) : (psB l).length = 4 * l.length := by
  induction l with
  | nil => rfl
  | cons b l ih => rw [psB_cons, List.length_append, prB_len, ih, List.length_cons]; omega
theorem readAsksF_asB : ∀ (l acc : List (Int × Int)) (n : Nat), (∀ a ∈ l, U32 a.1 ∧ U8 a.2) → l.length ≤ n → readAsksF n acc (asB l, 0) = (acc ++ l, ([], 0))
  | [], acc, n, _, _ => by rw [List.append_nil]; exact readAsksF_nil n acc 0
  | a :: l, acc, n, h, hn => by
    obtain ⟨n, rfl⟩ : ∃ m, n = m + 1 := ⟨n - 1, by simp at hn; omega⟩
    have h1 := h a (by simp)
    unfold readAsksF
    rw [if_neg (by
      intro e
      have := congrArg List.length e
      simp only [asB_len, List.length_cons, List.length_nil] at this
      omega), asB_cons, askS_askB a h1.1 h1.2]
    rw [readAsksF_asB l _ n (fun b hb => h b (by simp [hb])) (by simpa using hn)]
    simp
/-- Pairs come back. -/
theorem prS_prB (p : Int × Int) (h1 : U16 p.1) (h2 : U16 p.2) (r : List Int) : prS (prB p ++ r, 0) = (p, (r, 0)) := by
  unfold prB
  simp only [List.append_assoc]
  obtain ⟨b1, a1⟩ := tkS_bysA p.1 2 (by decide) (bysA p.2 2 ++ r)
  obtain ⟨b2, a2⟩ := tkS_bysA p.2 2 (by decide) r
  have b1 : tkS (bysA p.1 2 ++ (bysA p.2 2 ++ r), 0) 2 = (bysA p.2 2 ++ r, 0) := b1
  have a1 : tkB (bysA p.1 2 ++ (bysA p.2 2 ++ r)) 2 = bysA p.1 2 := a1
  have b2 : tkS (bysA p.2 2 ++ r, 0) 2 = (r, 0) := b2
  have a2 : tkB (bysA p.2 2 ++ r) 2 = bysA p.2 2 := a2
  have n1 : num (bysA p.1 2) = p.1 := num_bysA p.1 2 h1.1 (by decide) (by have := h1.2; show p.1 < 65536; omega)
  have n2 : num (bysA p.2 2) = p.2 := num_bysA p.2 2 h2.1 (by decide) (by have := h2.2; show p.2 < 65536; omega)
  unfold prS
  rw [b1, b2]
  simp only [a1, a2, n1, n2]
theorem rise_app {l m : List Int} {x : Int} (h : riseB (l ++ x :: m) = true) (hl : l ≠ []) : 0 < ahd (l.getLastD 0) x := by
  have hp := List.length_pos_iff.2 hl
  have := (riseB_iff _).1 h (l.length - 1) (by rw [List.length_append, List.length_cons]; omega)
  rw [show l.length - 1 + 1 = l.length by omega] at this
  rw [getLastD_eq hl]
  rw [List.getD_eq_getElem?_getD, List.getD_eq_getElem?_getD, List.getElem?_append_left (by omega), List.getElem?_append_right (Nat.le_refl _)] at this
  rw [List.getD_eq_getElem?_getD]
  simpa using this
theorem readLostF_psB : ∀ (ps : List (Int × Int)) (acc : List Int) (n : Nat), (∀ p ∈ ps, U16 p.1 ∧ U16 p.2) → riseB (acc ++ prF ps) = true → ps.length ≤ n → readLostF n acc (psB ps, 0) = (acc ++ prF ps, ([], 0))
  | [], acc, n, _, _, _ => by
    have : prF [] = [] := rfl
    rw [this, List.append_nil]; exact readLostF_nil n acc 0
  | p :: ps, acc, n, h, hr, hn => by
    obtain ⟨n, rfl⟩ : ∃ m, n = m + 1 := ⟨n - 1, by simp at hn; omega⟩
    have h1 := h p (by simp)
    rw [prF_cons] at hr ⊢
    unfold readLostF
    rw [if_neg (by
      intro e
      have := congrArg List.length e
      simp only [psB_len, List.length_cons, List.length_nil] at this
      omega), psB_cons, prS_prB p h1.1 h1.2]
    have hnw : newS acc p (psB ps, 0) = (psB ps, 0) := by
      unfold newS
      rw [if_neg]
      rintro ⟨ha, hb⟩
      exact hb (rise_app (m := _) (by unfold prN at hr; rw [List.cons_append] at hr; exact hr) ha)
    simp only [hnw]
    rw [readLostF_psB ps _ n (fun b hb => h b (by simp [hb])) (by rw [List.append_assoc]; exact hr) (by simpa using hn)]
    simp
theorem rightM_1 {m : Msg} (h : rightM m = true) (hk : m.kind = 1) : m.asks = [] ∧ m.lost = [] := by
  unfold rightM at h; rw [if_pos hk] at h; simpa using h
theorem rightM_2 {m : Msg} (h : rightM m = true) (hk : m.kind = 2) : m.med = 0 ∧ 1 ≤ m.asks.length ∧ m.asks.length ≤ 23 ∧ m.lost = [] := by
  unfold rightM at h; rw [if_neg (by rw [hk]; decide), if_pos hk] at h; exact of_decide_eq_true h
theorem rightM_3 {m : Msg} (h : rightM m = true) (hk : m.kind = 3) : m.asks = [] ∧ 1 ≤ m.lost.length ∧ riseB m.lost = true ∧ (pairsF m.lost).length ≤ 47 := by
  unfold rightM at h; rw [if_neg (by rw [hk]; decide), if_neg (by rw [hk]; decide), if_pos hk] at h; exact of_decide_eq_true h
theorem rightM_kind {m : Msg} (h : rightM m = true) : m.kind = 1 ∨ m.kind = 2 ∨ m.kind = 3 := by
  unfold rightM at h
  split at h
  · left; assumption
  · split at h
    · right; left; assumption
    · split at h
      · right; right; assumption
      · cases h
theorem writeM_yes {m : Msg} (h : rightM m = true) : writeM m = (((formM m.kind).2, (formM m.kind).1, msgB m, ()), 0) := by unfold writeM; rw [if_pos h]
theorem writeM_no {m : Msg} (h : rightM m = false) : writeM m = ((0, 0, [], ()), 1) := by unfold writeM; rw [h]; rfl
theorem msgB_len (m : Msg) : (msgB m).length = 8 + 8 * m.asks.length + 4 * (pairsF m.lost).length := by
  unfold msgB
  rw [List.length_append, List.length_append, List.length_append, asB_len, psB_len, bysA_len2 _ _ (by decide), bysA_len2 _ _ (by decide)]
  show 4 + (4 + _) = _
  omega
theorem msgB_le {m : Msg} (h : rightM m = true) : (msgB m).length ≤ 196 ∧ (msgB m).length % 4 = 0 := by
  have hl := msgB_len m
  rcases rightM_kind h with hk | hk | hk
  · obtain ⟨a, b⟩ := rightM_1 h hk
    rw [a, b] at hl
    simp [pairsF] at hl
    omega
  · obtain ⟨_, _, a, b⟩ := rightM_2 h hk
    rw [b] at hl
    simp [pairsF] at hl
    omega
  · obtain ⟨a, _, _, b⟩ := rightM_3 h hk
    rw [a] at hl
    simp at hl
    omega
theorem writeM_right {m : Msg} (h : rightM m = true) : rightB (writeM m).1 = true := by
  have hl := msgB_le h
  rw [writeM_yes h, rightB_iff]
  refine ⟨?_, hl.2, hl.1⟩
  show (formM m.kind).2 ≤ 31
  rcases rightM_kind h with hk | hk | hk <;> rw [hk] <;> decide
theorem kindC_write {m : Msg} (h : rightM m = true) : kindC (writeM m).1 = m.kind := by
  rw [writeM_yes h]
  unfold kindC
  rcases rightM_kind h with hk | hk | hk <;> rw [hk] <;> simp [formM]
theorem doneM_ok (m : Msg) : doneM m ([], 0) = (m, 0) := rfl
/-- Messages come back from their chunks. -/
theorem readM_writeM {m : Msg} (hm : MsgOK m) (h : rightM m = true) : readM (writeM m).1 = (m, 0) := by
  have hr := writeM_right h
  have hk := kindC_write h
  have h123 := rightM_kind h
  unfold readM
  rw [if_neg (by rw [hr]; simp), hk, if_neg (by rcases h123 with e | e | e <;> rw [e] <;> decide), writeM_yes h]
  simp only
  unfold msgB
  obtain ⟨a1, b1⟩ := rdNum_bysA m.snd hm.snd (bysA m.med 4 ++ (asB m.asks ++ psB (pairsF m.lost)))
  obtain ⟨a2, b2⟩ := rdNum_bysA m.med hm.med (asB m.asks ++ psB (pairsF m.lost))
  rw [a1, b1, a2, b2]
  obtain ⟨k, sn, me, aks, lo⟩ := m
  simp only at *
  rcases h123 with rfl | rfl | rfl
  · obtain ⟨rfl, rfl⟩ := rightM_1 h rfl
    rfl
  · obtain ⟨hz, h1, h23, e⟩ := rightM_2 h rfl
    simp only at hz h1 h23 e
    subst hz e
    have e0 : asB aks ++ psB (pairsF []) = asB aks := by simp [pairsF, psB]
    rw [e0]
    unfold restM
    rw [if_pos rfl]
    have hl := asB_len aks
    have e1 : asksS 0 (asB aks, 0) = (asB aks, 0) := by
      unfold asksS
      rw [if_neg (show ¬ (¬ (0 : Int) = 0 ∨ (asB aks).length = 0 ∨ ¬ (asB aks).length % 8 = 0) by omega)]
    rw [e1]
    simp only
    rw [readAsksF_asB aks [] _ hm.asks (by omega)]
    rfl
  · obtain ⟨e, h1, hri, h47⟩ := rightM_3 h rfl
    simp only at e h1 hri h47
    subst e
    have e0 : asB [] ++ psB (pairsF lo) = psB (pairsF lo) := rfl
    rw [e0]
    unfold restM
    rw [if_neg (by decide), if_pos rfl]
    have hl := psB_len (pairsF lo)
    have hp : PrI lo (pairsF lo) := prI_of hm.lost hri
    have hpl := (prF_len (pairsF lo)).2
    rw [hp.flat] at hpl
    have e1 : lostS (psB (pairsF lo), 0) = (psB (pairsF lo), 0) := by
      unfold lostS
      rw [if_neg (show ¬ (psB (pairsF lo)).length = 0 by omega)]
    rw [e1]
    simp only
    rw [readLostF_psB (pairsF lo) [] _ hp.ok (by rw [List.nil_append, hp.flat]; exact hri) (by omega), hp.flat]
    rfl
theorem writeM_inj {m n : Msg} (hm : MsgOK m) (hn : MsgOK n) (h : rightM m = true) (k : rightM n = true) : (writeM m).1 = (writeM n).1 ↔ m = n := by
  constructor
  · intro e
    have a := readM_writeM hm h
    have b := readM_writeM hn k
    rw [e, b] at a
    injection a with a _
    exact a.symm
  · rintro rfl; rfl
/-- What is read may be, number by number. -/
theorem num_u16 {s : RdS} (h : Byt s.1) : U16 (num (tkB s.1 2)) := by
  have := num_lt (tkB s.1 2) 2 (tkB_byt h 2) (tkB_len s.1 2 (by decide)) (by decide)
  have h2 : num (tkB s.1 2) < 65536 := this.2
  exact ⟨this.1, by omega⟩
theorem num_u8 {s : RdS} (h : Byt s.1) : U8 (num (tkB s.1 1)) := by
  have := num_lt (tkB s.1 1) 1 (tkB_byt h 1) (tkB_len s.1 1 (by decide)) (by decide)
  have h2 : num (tkB s.1 1) < 256 := this.2
  exact ⟨this.1, by omega⟩
theorem num_u32 {s : RdS} (h : Byt s.1) : U32 (rdNum s) := by
  have := num_lt (tkB s.1 4) 4 (tkB_byt h 4) (tkB_len s.1 4 (by decide)) (by decide)
  have h2 : num (tkB s.1 4) < 4294967296 := this.2
  exact ⟨this.1, by show num (tkB s.1 4) ≤ 4294967295; omega⟩
theorem askS_ok {s : RdS} (h : Byt s.1) : U32 (askS s).1.1 ∧ U8 (askS s).1.2 ∧ Byt (askS s).2.1 := ⟨num_u32 h, num_u8 (tkS_byt h 4), tkS_byt (tkS_byt (tkS_byt h 4) 1) 3⟩
theorem prS_ok {s : RdS} (h : Byt s.1) : U16 (prS s).1.1 ∧ U16 (prS s).1.2 ∧ Byt (prS s).2.1 := ⟨num_u16 h, num_u16 (tkS_byt h 2), tkS_byt (tkS_byt h 2) 2⟩
theorem newS_byt {acc : List Int} {p : Int × Int} {s : RdS} (h : Byt s.1) : Byt (newS acc p s).1 := by
  unfold newS; split
  · exact wrS_byt h 2
  · exact h
theorem prN_u16 {p : Int × Int} (h : U16 p.1) : ∀ x ∈ prN p, U16 x := by
  intro x hx
  unfold prN at hx
  rcases List.mem_cons.1 hx with rfl | hx
  · exact h
  · obtain ⟨k, _, rfl⟩ := List.mem_map.1 hx
    constructor <;> omega
theorem readAsksF_ok : ∀ (n : Nat) (acc : List (Int × Int)) (s : RdS), Byt s.1 → (∀ a ∈ acc, U32 a.1 ∧ U8 a.2) → ∀ a ∈ (readAsksF n acc s).1, U32 a.1 ∧ U8 a.2
  | 0, _, _, _, h => h
  | n + 1, acc, s, hb, h => by
    unfold readAsksF
    split
    · exact h
    · obtain ⟨a1, a2, a3⟩ := askS_ok hb
      refine readAsksF_ok n _ _ a3 fun a ha => ?_
      rcases List.mem_append.1 ha with ha | ha
      · exact h a ha
      · rw [List.mem_singleton] at ha; subst ha; exact ⟨a1, a2⟩
theorem readLostF_ok : ∀ (n : Nat) (acc : List Int) (s : RdS), Byt s.1 → (∀ a ∈ acc, U16 a) → ∀ a ∈ (readLostF n acc s).1, U16 a
  | 0, _, _, _, h => h
  | n + 1, acc, s, hb, h => by
    unfold readLostF
    split
    · exact h
    · obtain ⟨a1, a2, a3⟩ := prS_ok hb
      refine readLostF_ok n _ _ (newS_byt a3) fun a ha => ?_
      rcases List.mem_append.1 ha with ha | ha
      · exact h a ha
      · exact prN_u16 a1 a ha
theorem doneM_ok2 {m : Msg} {s : RdS} (h : MsgOK m) : MsgOK (doneM m s).1 := by
  unfold doneM; split
  · exact h
  · exact msg0_ok
theorem asksS_byt {b : Int} {s : RdS} (h : Byt s.1) : Byt (asksS b s).1 := by
  unfold asksS; split
  · exact wrS_byt h 2
  · exact h
theorem lostS_byt {s : RdS} (h : Byt s.1) : Byt (lostS s).1 := by
  unfold lostS; split
  · exact wrS_byt h 2
  · exact h
theorem restM_ok {k a b : Int} {s : RdS} (hb : Byt s.1) (ha : U32 a) (hb2 : U32 b) : MsgOK (restM k a b s).1 := by
  unfold restM
  split
  · exact doneM_ok2 ⟨ha, hb2, readAsksF_ok _ _ _ (asksS_byt hb) (fun x hx => by cases hx), (fun x hx => by cases hx)⟩
  · split
    · exact doneM_ok2 ⟨ha, hb2, (fun x hx => by cases hx), readLostF_ok _ _ _ (lostS_byt hb) (fun x hx => by cases hx)⟩
    · exact doneM_ok2 ⟨ha, hb2, (fun x hx => by cases hx), (fun x hx => by cases hx)⟩
theorem readM_ok {c : Chunk} (hk : ChunkOK c) : MsgOK (readM c).1 := by
  have hb : Byt ((c.2.2.1, 0) : RdS).1 := hk.byt
  unfold readM
  split
  · exact msg0_ok
  · split
    · exact msg0_ok
    · exact restM_ok (tkS_byt (tkS_byt hb 4) 4) (num_u32 hb) (num_u32 (tkS_byt hb 4))
/-- As many bytes as pairs tell. -/
theorem newS_cases (acc : List Int) (p : Int × Int) (s : RdS) : newS acc p s = s ∨ ¬ (newS acc p s).2 = 0 := by
  unfold newS; split
  · right; exact wrS_two s
  · left; rfl
theorem wrS_shut {s : RdS} (h : Shut s) (x : Int) : Shut (wrS s x) := by
  unfold wrS; split
  · exact h
  · intro _; rfl
theorem newS_shut {acc : List Int} {p : Int × Int} {s : RdS} (h : Shut s) : Shut (newS acc p s) := by
  unfold newS; split
  · exact wrS_shut h 2
  · exact h
theorem readLostF_bad (n : Nat) (acc : List Int) {s : RdS} (hs : Shut s) (h : ¬ s.2 = 0) : readLostF n acc s = (acc, s) := by
  obtain ⟨l, e⟩ := s
  obtain rfl : l = [] := hs h
  exact readLostF_nil n acc e
theorem readAsksF_bad (n : Nat) (acc : List (Int × Int)) {s : RdS} (hs : Shut s) (h : ¬ s.2 = 0) : readAsksF n acc s = (acc, s) := by
  obtain ⟨l, e⟩ := s
  obtain rfl : l = [] := hs h
  exact readAsksF_nil n acc e
theorem readLostF_back : ∀ (n : Nat) (acc : List Int) (L : List Int), Byt L → L.length ≤ n → (readLostF n acc (L, 0)).2 = ([], 0) →
    ∃ ps : List (Int × Int), (readLostF n acc (L, 0)).1 = acc ++ prF ps ∧ L.length = 4 * ps.length ∧ ∀ p ∈ ps, U16 p.1
  | 0, acc, L, hb, hn, h => ⟨[], by simp [readLostF, prF], by simp at hn; simp [hn], (fun p hp => by cases hp)⟩
  | n + 1, acc, L, hb, hn, h => by
    by_cases hL : L = []
    · subst hL
      rw [readLostF_nil]
      exact ⟨[], by simp [prF], rfl, (fun p hp => by cases hp)⟩
    · unfold readLostF at h ⊢
      rw [if_neg hL] at h ⊢
      obtain ⟨a1, a2, a3⟩ := prS_ok (s := (L, 0)) hb
      have hadv := prS_adv (shut_ok L)
      have hsh : Shut (prS (L, 0)).2 := by rw [hadv]; exact adv_shut _ _
      by_cases h4 : 4 ≤ L.length
      · rw [adv_ok rfl h4] at hadv
        rcases newS_cases acc (prS (L, 0)).1 (prS (L, 0)).2 with e | e
        · rw [e, hadv] at h ⊢
          simp only at h ⊢
          obtain ⟨ps, q1, q2, q3⟩ := readLostF_back n _ (L.drop 4) (hb.drop 4) (by rw [List.length_drop]; omega) h
          refine ⟨(prS (L, 0)).1 :: ps, by rw [q1, prF_cons, List.append_assoc], ?_, fun p hp => ?_⟩
          · rw [List.length_drop] at q2; rw [List.length_cons]; omega
          · rcases List.mem_cons.1 hp with rfl | hp
            · exact a1
            · exact q3 p hp
        · rw [readLostF_bad n _ (newS_shut hsh) e] at h
          simp only at h
          rw [h] at e
          exact absurd rfl e
      · rw [adv_bad rfl (by simp only; omega)] at hadv
        have e : ¬ (newS acc (prS (L, 0)).1 (prS (L, 0)).2).2 = 0 := by
          rcases newS_cases acc (prS (L, 0)).1 (prS (L, 0)).2 with e | e
          · rw [e, hadv]; decide
          · exact e
        rw [readLostF_bad n _ (newS_shut hsh) e] at h
        simp only at h
        rw [h] at e
        exact absurd rfl e
theorem readAsksF_back : ∀ (k n : Nat) (acc : List (Int × Int)) (L : List Int), L.length = 8 * k → k ≤ n → (readAsksF n acc (L, 0)).2 = ([], 0) ∧ (readAsksF n acc (L, 0)).1.length = acc.length + k
  | 0, n, acc, L, hl, _ => by
    obtain rfl : L = [] := List.eq_nil_of_length_eq_zero (by omega)
    rw [readAsksF_nil]
    exact ⟨rfl, rfl⟩
  | k + 1, n, acc, L, hl, hn => by
    obtain ⟨n, rfl⟩ : ∃ m, n = m + 1 := ⟨n - 1, by omega⟩
    unfold readAsksF
    have hadv := askS_adv (shut_ok L)
    rw [adv_ok rfl (by simp only; omega)] at hadv
    simp only at hadv
    rw [if_neg (by intro e; simp only at e; rw [e] at hl; simp at hl), hadv]
    obtain ⟨q1, q2⟩ := readAsksF_back k n (acc ++ [(askS (L, 0)).1]) (L.drop 8) (by rw [List.length_drop]; omega) (by omega)
    refine ⟨q1, ?_⟩
    rw [q2, List.length_append, List.length_singleton]; omega
theorem kindC_form {c : Chunk} (h : ¬ kindC c = 0) : formM (kindC c) = (c.2.1, c.1) ∧ (kindC c = 1 ∨ kindC c = 2 ∨ kindC c = 3) := by
  unfold kindC at h ⊢
  unfold formM
  split
  · rename_i e; exact ⟨by rw [e.1, e.2]; rfl, by simp⟩
  · split
    · rename_i e; exact ⟨by rw [e.1, e.2]; rfl, by simp⟩
    · split
      · rename_i e; exact ⟨by rw [e.1, e.2]; rfl, by simp⟩
      · rename_i h1 h2 h3
        rw [if_neg h1, if_neg h2, if_neg h3] at h
        exact absurd rfl h
theorem doneM_back {m k : Msg} {s : RdS} (h : doneM m s = (k, 0)) : m = k ∧ s = ([], 0) := by
  unfold doneM at h
  split at h
  · rename_i e
    injection h with h _
    exact ⟨h, endS_zero e⟩
  · rename_i e
    injection h with _ h
    exact absurd h e
/-- What is read of a chunk, and may be, is written as shortly. -/
theorem writeM_readM {c : Chunk} {k : Msg} (hk : ChunkOK c) (h : readM c = (k, 0)) (hr : rightM k = true) :
    (writeM k).1.1 = c.1 ∧ (writeM k).1.2.1 = c.2.1 ∧ (writeM k).1.2.2.1.length ≤ c.2.2.1.length := by
  have hb : Byt c.2.2.1 := hk.byt
  unfold readM at h
  split at h
  · injection h with _ h; exact absurd h (by decide)
  split at h
  · injection h with _ h; exact absurd h (by decide)
  rename_i hkc
  obtain ⟨f1, f2⟩ := kindC_form hkc
  have e0 : tkS (tkS (c.2.2.1, 0) 4) 4 = adv (c.2.2.1, 0) 8 := by
    show tkS (tkS (c.2.2.1, 0) (4 : Nat)) (4 : Nat) = _
    rw [tkS_adv 4 (shut_ok _), tkS_adv2]
  have hkind : k.kind = kindC c := by
    unfold restM at h
    split at h
    · rename_i e; have := (doneM_back h).1; rw [← this]; exact e.symm
    · split at h
      · rename_i e; have := (doneM_back h).1; rw [← this]; exact e.symm
      · have := (doneM_back h).1; rw [← this]
  rw [writeM_yes hr, hkind, f1]
  refine ⟨rfl, rfl, ?_⟩
  simp only
  rw [msgB_len]
  rw [e0] at h
  by_cases h8 : 8 ≤ c.2.2.1.length
  · rw [adv_ok rfl h8] at h
    simp only at h
    unfold restM at h
    rcases f2 with e | e | e
    · obtain ⟨q1, q2⟩ := rightM_1 hr (by rw [hkind, e])
      rw [q1, q2]
      simp [pairsF]
      exact h8
    · rw [if_pos e] at h
      obtain ⟨q1, q2⟩ := doneM_back h
      obtain ⟨_, _, _, q3⟩ := rightM_2 hr (by rw [hkind, e])
      rw [q3]
      simp only [pairsF, List.foldl_nil, List.length_nil]
      by_cases hx : ¬ rdNum (tkS (c.2.2.1, 0) 4) = 0 ∨ (c.2.2.1.drop 8).length = 0 ∨ ¬ (c.2.2.1.drop 8).length % 8 = 0
      · have : ¬ (asksS (rdNum (tkS (c.2.2.1, 0) 4)) (c.2.2.1.drop 8, 0)).2 = 0 := by
          unfold asksS; rw [if_pos hx]; exact wrS_two _
        have hs : Shut (asksS (rdNum (tkS (c.2.2.1, 0) 4)) (c.2.2.1.drop 8, 0)) := by unfold asksS; rw [if_pos hx]; exact wrS_shut (shut_ok _) 2
        rw [readAsksF_bad _ _ hs this] at q2
        simp only at q2
        rw [q2] at this
        exact absurd rfl this
      · have e1 : asksS (rdNum (tkS (c.2.2.1, 0) 4)) (c.2.2.1.drop 8, 0) = (c.2.2.1.drop 8, 0) := by unfold asksS; rw [if_neg hx]
        rw [e1] at q1
        obtain ⟨_, q5⟩ := readAsksF_back ((c.2.2.1.drop 8).length / 8) (c.2.2.1.drop 8).length [] (c.2.2.1.drop 8) (by omega) (by omega)
        rw [← q1]
        simp only
        rw [q5]
        simp only [List.length_drop, List.length_nil]
        omega
    · rw [if_neg (by rw [e]; decide), if_pos e] at h
      obtain ⟨q1, q2⟩ := doneM_back h
      obtain ⟨q3, _⟩ := rightM_3 hr (by rw [hkind, e])
      rw [q3]
      simp only [List.length_nil]
      by_cases hx : (c.2.2.1.drop 8).length = 0
      · have e1 : c.2.2.1.drop 8 = [] := List.eq_nil_of_length_eq_zero hx
        rw [e1] at q2
        have : lostS (([], 0) : RdS) = ([], 2) := by decide
        rw [this, readLostF_nil] at q2
        injection q2 with _ q2
        exact absurd q2 (by decide)
      · have e1 : lostS (c.2.2.1.drop 8, 0) = (c.2.2.1.drop 8, 0) := by unfold lostS; rw [if_neg hx]
        rw [e1] at q1 q2
        obtain ⟨ps, p1, p2, p3⟩ := readLostF_back _ [] (c.2.2.1.drop 8) (hb.drop 8) (Nat.le_refl _) q2
        rw [← q1]
        simp only
        rw [p1, List.nil_append]
        have := pairs_few ps [] p3
        simp only [List.length_nil, Nat.zero_add] at this
        show 8 + 8 * 0 + 4 * (pairsF (prF ps)).length ≤ _
        unfold pairsF
        rw [List.length_drop] at p2
        omega
  · rw [adv_bad rfl (by simp only; omega)] at h
    exfalso
    have key : ∀ m, doneM m (([], 3) : RdS) ≠ (k, 0) := by
      intro m e
      have := (doneM_back e).2
      exact absurd this (by decide)
    unfold restM at h
    split at h
    · have : asksS (rdNum (tkS (c.2.2.1, 0) 4)) (([], 3) : RdS) = ([], 3) := by unfold asksS; rw [if_pos (by simp)]; decide
      rw [this, readAsksF_nil] at h
      exact key _ h
    · split at h
      · have : lostS (([], 3) : RdS) = ([], 3) := by decide
        rw [this, readLostF_nil] at h
        exact key _ h
      · exact key _ h
/-- How many pairs there are. -/
theorem pairs_count {l : List Int} (hu : ∀ x ∈ l, U16 x) (hr : riseB l = true) : (pairsF l).length ≤ l.length ∧ l.length ≤ 17 * (pairsF l).length := by
  have h := prF_len (pairsF l)
  rw [(prI_of hu hr).flat] at h
  exact h
end Go.Proofs.Ytlnikmcimmnbmaa
