/- Merged from my texts ReportQ, CompP, FeedA. -/
import Derived.Test.YtlnikmcimmnbmaaMg12
import Derived.Test.YtlnikmcimmnbmaaMg13
import Derived.Test.YtlnikmcimmnbmaaMg11
import Derived.Test.YtlnikmcimmnbmaaMg3
import Derived.IntWalk
/- Reports: the plain law: chunks from reports. -/
namespace Go.Proofs.Ytlnikmcimmnbmaa
set_option linter.unusedSimpArgs false
set_option linter.unusedVariables false
open Go.RowKit
set_option maxRecDepth 100000

theorem inf_exists {L : List Int} (hb : Byt L) (h : 20 ≤ L.length) : ∃ i r, L = infB i ++ r ∧ InfOK i ∧ Byt r := by
  obtain ⟨x0, r0, rfl, u0, b0⟩ := u32_exists hb (by omega)
  rw [List.length_append, bysA_len2 _ _ (by decide)] at h
  obtain ⟨x1, r1, rfl, u1, b1⟩ := u32_exists b0 (by simp at h; omega)
  rw [List.length_append, bysA_len2 _ _ (by decide)] at h
  obtain ⟨x2, r2, rfl, u2, b2⟩ := u32_exists b1 (by simp at h; omega)
  rw [List.length_append, bysA_len2 _ _ (by decide)] at h
  obtain ⟨x3, r3, rfl, u3, b3⟩ := u32_exists b2 (by simp at h; omega)
  rw [List.length_append, bysA_len2 _ _ (by decide)] at h
  obtain ⟨x4, r4, rfl, u4, b4⟩ := u32_exists b3 (by simp at h; omega)
  exact ⟨⟨x0, x1, x2, x3, x4⟩, r4, by unfold infB; simp only [List.append_assoc], ⟨u0, u1, u2, u3, u4⟩, b4⟩
theorem blk_exists {L : List Int} (hb : Byt L) (h : 24 ≤ L.length) : ∃ b r, L = blkB b ++ r ∧ BlkOK b ∧ missOK b = true ∧ Byt r := by
  obtain ⟨x0, r0, rfl, u0, b0⟩ := u32_exists hb (by omega)
  rw [List.length_append, bysA_len2 _ _ (by decide)] at h
  obtain ⟨x1, r1, rfl, l1, g1, b1⟩ := num_exists 1 (by decide) b0 (by simp at h; omega)
  rw [List.length_append, bysA_len2 _ _ (by decide)] at h
  obtain ⟨x2, r2, rfl, l2, g2, b2⟩ := num_exists 3 (by decide) b1 (by simp at h; omega)
  rw [List.length_append, bysA_len2 _ _ (by decide)] at h
  obtain ⟨x3, r3, rfl, u3, b3⟩ := u32_exists b2 (by simp at h; omega)
  rw [List.length_append, bysA_len2 _ _ (by decide)] at h
  obtain ⟨x4, r4, rfl, u4, b4⟩ := u32_exists b3 (by simp at h; omega)
  rw [List.length_append, bysA_len2 _ _ (by decide)] at h
  obtain ⟨x5, r5, rfl, u5, b5⟩ := u32_exists b4 (by simp at h; omega)
  rw [List.length_append, bysA_len2 _ _ (by decide)] at h
  obtain ⟨x6, r6, rfl, u6, b6⟩ := u32_exists b5 (by simp at h; omega)
  have g1 : x1 < 256 := g1
  have g2 : x2 < 16777216 := g2
  have hs := sgd_bd x2 24 (by decide) (by decide)
  have hm := sgd_mod x2 24 (by decide) (by decide)
  have e1 : two 24 = 16777216 := by decide
  have e2 : two (24 - 1) = 8388608 := by decide
  rw [e2] at hs
  rw [e1] at hm
  have h3 : bysA (sgd x2 24 % 4294967296) 3 = bysA x2 3 := by
    rw [← bysA_mod3, ← bysA_mod3 x2]
    congr 1
    omega
  refine ⟨⟨x0, x1, sgd x2 24, x3, x4, x5, x6⟩, r6, ?_, ⟨u0, ⟨l1, by simp only; omega⟩, ⟨by simp only; omega, by simp only; omega⟩, u3, u4, u5, u6⟩, ?_, b6⟩
  · unfold blkB
    simp only [List.append_assoc, h3]
    rfl
  · unfold missOK
    simp only [decide_eq_true_eq]
    omega
theorem bls_exists : ∀ (n : Nat) {L : List Int}, Byt L → 24 * n ≤ L.length → ∃ l r, l.length = n ∧ L = flR l ++ r ∧ (∀ b ∈ l, BlkOK b ∧ missOK b = true) ∧ Byt r
  | 0, L, hb, _ => ⟨[], L, rfl, rfl, (fun b h => by cases h), hb⟩
  | n + 1, L, hb, h => by
    obtain ⟨b, r, rfl, k1, k2, hr⟩ := blk_exists hb (by omega)
    rw [List.length_append, blkB_len] at h
    obtain ⟨l, r', h1, rfl, h3, h4⟩ := bls_exists n hr (by omega)
    refine ⟨b :: l, r', by rw [List.length_cons, h1], by rw [flR_cons, List.append_assoc], fun c hc => ?_, h4⟩
    simp at hc
    rcases hc with rfl | hc
    · exact ⟨k1, k2⟩
    · exact h3 c hc
theorem inf0_ok : InfOK inf0 := ⟨by decide, by decide, by decide, by decide, by decide⟩
/-- A chunk that is read is some report's. -/
theorem report_exists {c : Chunk} (hk : ChunkOK c) (h : (readR c).2 = 0) : ∃ r, RepOK r ∧ rightR r = true ∧ writeR r = (c, 0) := by
  have hr : rightB c = true := by
    cases x : rightB c with
    | true => rfl
    | false => unfold readR at h; rw [if_pos x] at h; cases h
  have ht : c.2.1 = 200 ∨ c.2.1 = 201 := by
    by_cases h1 : c.2.1 = 200
    · exact Or.inl h1
    · by_cases h2 : c.2.1 = 201
      · exact Or.inr h2
      · unfold readR at h
        rw [if_neg (by rw [hr]; simp), if_neg h1, if_neg h2] at h
        cases h
  have he := readR_end c hr ht
  rw [h] at he
  have hlen : c.2.2.1.length = needR c := by
    by_cases h1 : c.2.2.1.length < needR c
    · rw [if_pos h1] at he; cases he
    · by_cases h2 : needR c < c.2.2.1.length
      · rw [if_neg h1, if_pos h2] at he; cases he
      · omega
  obtain ⟨r1, r2, r3⟩ := (rightB_iff c).1 hr
  obtain ⟨k, t, B, ⟨⟩⟩ := c
  obtain ⟨⟨k0, k1⟩, _, hb⟩ := hk
  simp only at hlen r1 r2 r3 k0 k1 hb ht
  unfold needR at hlen
  simp only at hlen
  obtain ⟨src, q0, rfl, u0, b0⟩ := u32_exists hb (by omega)
  rw [List.length_append, bysA_len2 _ _ (by decide)] at hlen r3
  have e4 : (4 : Int).toNat = 4 := rfl
  rw [e4] at hlen r3
  rcases ht with rfl | rfl
  · rw [if_pos rfl] at hlen
    obtain ⟨i, q1, rfl, ui, b1⟩ := inf_exists b0 (by omega)
    rw [List.length_append, infB_len] at hlen r3
    obtain ⟨l, q2, l1, rfl, l3, _⟩ := bls_exists k.toNat b1 (by omega)
    rw [List.length_append, flR_len] at hlen r3
    have hq : q2 = [] := List.eq_nil_of_length_eq_zero (by omega)
    subst hq
    have hR : rightR ⟨true, src, i, l⟩ = true := (rightR_iff _).2 ⟨(fun h => by cases h), fun b hb => (l3 b hb).2, by simp; omega⟩
    refine ⟨⟨true, src, i, l⟩, ⟨u0, ui, fun b hb => (l3 b hb).1⟩, hR, ?_⟩
    rw [writeR_yes hR]
    have ek : ((l.length : Int)) = k := by omega
    simp only [ek, if_true]
    congr 4
    unfold repB headB
    simp
  · rw [if_neg (by decide)] at hlen
    obtain ⟨l, q2, l1, rfl, l3, _⟩ := bls_exists k.toNat b0 (by omega)
    rw [List.length_append, flR_len] at hlen r3
    have hq : q2 = [] := List.eq_nil_of_length_eq_zero (by omega)
    subst hq
    have hR : rightR ⟨false, src, inf0, l⟩ = true := (rightR_iff _).2 ⟨fun h => rfl, fun b hb => (l3 b hb).2, by simp; omega⟩
    refine ⟨⟨false, src, inf0, l⟩, ⟨u0, inf0_ok, fun b hb => (l3 b hb).1⟩, hR, ?_⟩
    rw [writeR_yes hR]
    have ek : ((l.length : Int)) = k := by omega
    simp only [ek]
    unfold repB headB
    simp
theorem writeR_readR {c : Chunk} {r : Rep} (hk : ChunkOK c) (h : readR c = (r, 0)) : writeR r = (c, 0) ∧ RepOK r ∧ rightR r = true := by
  obtain ⟨r', h1, h2, h3⟩ := report_exists hk (by rw [h])
  have h4 := readR_writeR h1 h2
  rw [h3, h] at h4
  obtain rfl : r = r' := by injection h4
  exact ⟨h3, h1, h2⟩
theorem writeR_inj {r s : Rep} (hr : RepOK r) (hs : RepOK s) (h1 : rightR r = true) (h2 : rightR s = true) : (writeR r).1 = (writeR s).1 ↔ r = s := by
  constructor
  · intro h
    have a := readR_writeR hr h1
    have b := readR_writeR hs h2
    rw [h, b] at a
    injection a with a
    exact a.symm
  · rintro rfl; rfl
end Go.Proofs.Ytlnikmcimmnbmaa
/- Items of a datagram: plain laws; no program in sight. -/
namespace Go.Proofs.Ytlnikmcimmnbmaa
set_option linter.unusedSimpArgs false
set_option linter.unusedVariables false
open Go.RowKit
set_option maxRecDepth 100000

theorem rise_join {a m : List Int} {x : Int} (ha : riseB a = true) (hb : riseB (x :: m) = true) (h : a = [] ∨ 0 < ahd (a.getLastD 0) x) : riseB (a ++ x :: m) = true := by
  rw [riseB_iff] at *
  intro k hk
  rw [List.length_append] at hk
  by_cases h1 : k + 1 < a.length
  · have := ha k h1
    rw [List.getD_eq_getElem?_getD, List.getD_eq_getElem?_getD, List.getElem?_append_left (by omega), List.getElem?_append_left h1, ← List.getD_eq_getElem?_getD, ← List.getD_eq_getElem?_getD]
    exact this
  · by_cases h2 : k + 1 = a.length
    · have hne : a ≠ [] := fun e => by rw [e] at h2; simp at h2
      have hx := h.resolve_left hne
      rw [getLastD_eq hne] at hx
      rw [List.getD_eq_getElem?_getD, List.getD_eq_getElem?_getD, List.getElem?_append_left (by omega), List.getElem?_append_right (by omega), h2, Nat.sub_self, ← List.getD_eq_getElem?_getD]
      rw [show a.length - 1 = k by omega] at hx
      exact hx
    · have := hb (k - a.length) (by omega)
      rw [List.getD_eq_getElem?_getD, List.getD_eq_getElem?_getD, List.getElem?_append_right (by omega), List.getElem?_append_right (by omega), ← List.getD_eq_getElem?_getD, ← List.getD_eq_getElem?_getD, show k + 1 - a.length = k - a.length + 1 by omega]
      exact this
theorem prN_rise (p : Int × Int) (hp : U16 p.1) : riseB (prN p) = true := by
  rw [riseB_iff]
  intro k hk
  have := List.pairwise_iff_getElem.1 (prN_near p hp) k (k + 1) (by omega) hk (by omega)
  rw [List.getD_eq_getElem?_getD, List.getD_eq_getElem?_getD, List.getElem?_eq_getElem (show k < (prN p).length by omega), List.getElem?_eq_getElem hk]
  simp only [Option.getD_some]
  omega
theorem readLostF_rise : ∀ (n : Nat) (acc : List Int) (L : List Int), Byt L → L.length ≤ n → (readLostF n acc (L, 0)).2 = ([], 0) → riseB acc = true → riseB (readLostF n acc (L, 0)).1 = true
  | 0, acc, L, hb, hn, h, ha => ha
  | n + 1, acc, L, hb, hn, h, ha => by
    by_cases hL : L = []
    · subst hL
      rw [readLostF_nil]
      exact ha
    · unfold readLostF at h ⊢
      rw [if_neg hL] at h ⊢
      obtain ⟨a1, a2, a3⟩ := prS_ok (s := (L, 0)) hb
      have hadv := prS_adv (shut_ok L)
      have hsh : Shut (prS (L, 0)).2 := by rw [hadv]; exact adv_shut _ _
      by_cases h4 : 4 ≤ L.length
      · rw [adv_ok rfl h4] at hadv
        by_cases hx : ¬ acc = [] ∧ ¬ 0 < ahd (acc.getLastD 0) (prS (L, 0)).1.1
        · have e : ¬ (newS acc (prS (L, 0)).1 (prS (L, 0)).2).2 = 0 := by
            unfold newS; rw [if_pos hx]; exact wrS_two _
          rw [readLostF_bad n _ (newS_shut hsh) e] at h
          simp only at h
          rw [h] at e
          exact absurd rfl e
        · have e : newS acc (prS (L, 0)).1 (prS (L, 0)).2 = (prS (L, 0)).2 := by unfold newS; rw [if_neg hx]
          rw [e, hadv] at h ⊢
          simp only at h ⊢
          refine readLostF_rise n _ (L.drop 4) (hb.drop 4) (by rw [List.length_drop]; omega) h ?_
          have hr := prN_rise (prS (L, 0)).1 a1
          unfold prN at hr ⊢
          refine rise_join ha hr ?_
          by_cases e1 : acc = []
          · exact Or.inl e1
          · exact Or.inr (Classical.byContradiction fun e2 => hx ⟨e1, e2⟩)
      · rw [adv_bad rfl (by simp only; omega)] at hadv
        have e : ¬ (newS acc (prS (L, 0)).1 (prS (L, 0)).2).2 = 0 := by
          rcases newS_cases acc (prS (L, 0)).1 (prS (L, 0)).2 with e | e
          · rw [e, hadv]; decide
          · exact e
        rw [readLostF_bad n _ (newS_shut hsh) e] at h
        simp only at h
        rw [h] at e
        exact absurd rfl e
/-- What is read of any chunk, may be. -/
theorem readM_right {c : Chunk} {k : Msg} (hk : ChunkOK c) (h : readM c = (k, 0)) : rightM k = true := by
  have hb : Byt c.2.2.1 := hk.byt
  unfold readM at h
  split at h
  · injection h with _ h; exact absurd h (by decide)
  rename_i hrc
  have hrc' : rightB c = true := by simpa using hrc
  obtain ⟨_, _, hlen⟩ := (rightB_iff c).1 hrc'
  split at h
  · injection h with _ h; exact absurd h (by decide)
  rename_i hkc
  obtain ⟨f1, f2⟩ := kindC_form hkc
  have e0 : tkS (tkS (c.2.2.1, 0) 4) 4 = adv (c.2.2.1, 0) 8 := by
    show tkS (tkS (c.2.2.1, 0) (4 : Nat)) (4 : Nat) = _
    rw [tkS_adv 4 (shut_ok _), tkS_adv2]
  rw [e0] at h
  by_cases h8 : 8 ≤ c.2.2.1.length
  · rw [adv_ok rfl h8] at h
    simp only at h
    unfold restM at h
    rcases f2 with e | e | e
    · rw [if_neg (by rw [e]; decide), if_neg (by rw [e]; decide)] at h
      rw [← (doneM_back h).1, e]
      unfold rightM
      simp
    · rw [if_pos e] at h
      obtain ⟨q1, q2⟩ := doneM_back h
      by_cases hx : ¬ rdNum (tkS (c.2.2.1, 0) 4) = 0 ∨ (c.2.2.1.drop 8).length = 0 ∨ ¬ (c.2.2.1.drop 8).length % 8 = 0
      · have : ¬ (asksS (rdNum (tkS (c.2.2.1, 0) 4)) (c.2.2.1.drop 8, 0)).2 = 0 := by
          unfold asksS; rw [if_pos hx]; exact wrS_two _
        have hs : Shut (asksS (rdNum (tkS (c.2.2.1, 0) 4)) (c.2.2.1.drop 8, 0)) := by unfold asksS; rw [if_pos hx]; exact wrS_shut (shut_ok _) 2
        rw [readAsksF_bad _ _ hs this] at q2
        simp only at q2
        rw [q2] at this
        exact absurd rfl this
      · have e1 : asksS (rdNum (tkS (c.2.2.1, 0) 4)) (c.2.2.1.drop 8, 0) = (c.2.2.1.drop 8, 0) := by unfold asksS; rw [if_neg hx]
        rw [e1] at q1
        obtain ⟨_, q5⟩ := readAsksF_back ((c.2.2.1.drop 8).length / 8) (c.2.2.1.drop 8).length [] (c.2.2.1.drop 8) (by omega) (by omega)
        rw [← q1]
        unfold rightM
        simp only [if_neg (show ¬ (2 : Int) = 1 by decide), if_pos]
        rw [decide_eq_true_eq, q5]
        rw [List.length_drop] at hx ⊢
        simp only [List.length_nil]
        refine ⟨?_, by omega, by omega, trivial⟩
        exact Classical.byContradiction fun e => hx (Or.inl e)
    · rw [if_neg (by rw [e]; decide), if_pos e] at h
      obtain ⟨q1, q2⟩ := doneM_back h
      by_cases hx : (c.2.2.1.drop 8).length = 0
      · have e1 : c.2.2.1.drop 8 = [] := List.eq_nil_of_length_eq_zero hx
        rw [e1] at q2
        have : lostS (([], 0) : RdS) = ([], 2) := by decide
        rw [this, readLostF_nil] at q2
        injection q2 with _ q2
        exact absurd q2 (by decide)
      · have e1 : lostS (c.2.2.1.drop 8, 0) = (c.2.2.1.drop 8, 0) := by unfold lostS; rw [if_neg hx]
        rw [e1] at q1 q2
        obtain ⟨ps, p1, p2, p3⟩ := readLostF_back _ [] (c.2.2.1.drop 8) (hb.drop 8) (Nat.le_refl _) q2
        have hr := readLostF_rise _ [] (c.2.2.1.drop 8) (hb.drop 8) (Nat.le_refl _) q2 (by decide)
        rw [← q1]
        unfold rightM
        simp only [if_neg (show ¬ (3 : Int) = 1 by decide), if_neg (show ¬ (3 : Int) = 2 by decide), if_pos]
        rw [decide_eq_true_eq]
        refine ⟨trivial, ?_, hr, ?_⟩
        · rw [p1, List.nil_append]
          have := (prF_len ps).1
          omega
        · rw [p1, List.nil_append]
          have := pairs_few ps [] p3
          simp only [List.length_nil, Nat.zero_add] at this
          rw [List.length_drop] at p2
          show (pairsF (prF ps)).length ≤ 47
          unfold pairsF
          omega
  · rw [adv_bad rfl (by simp only; omega)] at h
    exfalso
    have key : ∀ m, doneM m (([], 3) : RdS) ≠ (k, 0) := by
      intro m e
      have := (doneM_back e).2
      exact absurd this (by decide)
    unfold restM at h
    split at h
    · have : asksS (rdNum (tkS (c.2.2.1, 0) 4)) (([], 3) : RdS) = ([], 3) := by unfold asksS; rw [if_pos (by simp)]; decide
      rw [this, readAsksF_nil] at h
      exact key _ h
    · split at h
      · have : lostS (([], 3) : RdS) = ([], 3) := by decide
        rw [this, readLostF_nil] at h
        exact key _ h
      · exact key _ h
/-- An item. -/
structure Itm where
  kind : Int
  rep : Rep
  msg : Msg
  oth : Chunk
def Itm.tup (b : Itm) : Int × Rep × Msg × Chunk := (b.kind, b.rep, b.msg, b.oth)
theorem Itm.tup_inj {a b : Itm} (h : a.tup = b.tup) : a = b := by
  obtain ⟨⟩ := a
  obtain ⟨⟩ := b
  simp only [Itm.tup, Prod.mk.injEq] at h
  simp [h]
theorem itm_iff (a b : Itm) : a = b ↔ a.kind = b.kind ∧ a.rep = b.rep ∧ a.msg = b.msg ∧ a.oth = b.oth := by
  obtain ⟨⟩ := a
  obtain ⟨⟩ := b
  simp
instance : DecidableEq Itm := fun a b => decidable_of_iff (a.kind = b.kind ∧ a.rep = b.rep ∧ a.msg = b.msg ∧ (a.oth.1 = b.oth.1 ∧ a.oth.2.1 = b.oth.2.1 ∧ a.oth.2.2.1 = b.oth.2.2.1)) (by
  obtain ⟨ka, ra, ma, o1, o2, o3, ⟨⟩⟩ := a
  obtain ⟨kb, rb, mb, p1, p2, p3, ⟨⟩⟩ := b
  simp)
structure ItmOK (x : Itm) : Prop where
  rep : RepOK x.rep
  msg : MsgOK x.msg
  oth : ChunkOK x.oth
def oth0 : Chunk := (0, 0, [], ())
def itm0 : Itm := ⟨0, rep0, msg0, oth0⟩
def strangeC (c : Chunk) : Bool := !(c.2.1 == 200 || c.2.1 == 201) && (readM c).2 == 5
def rightI (x : Itm) : Bool :=
  if x.kind = 1 then decide (x.msg = msg0) && (decide (x.oth = oth0) && rightR x.rep)
  else if x.kind = 2 then decide (x.rep = rep0) && (decide (x.oth = oth0) && rightM x.msg)
  else if x.kind = 3 then decide (x.rep = rep0) && (decide (x.msg = msg0) && (rightB x.oth && strangeC x.oth))
  else false
def chunkI (x : Itm) : Chunk × Int :=
  if rightI x = false then (oth0, 1) else if x.kind = 1 then writeR x.rep else if x.kind = 2 then writeM x.msg else (x.oth, 0)
def firstE : List Int → Int
  | [] => 0
  | e :: l => if e = 0 then firstE l else e
def writeI (l : List Itm) : List Int × Int := if firstE (l.map fun x => (chunkI x).2) = 0 then joinC (l.map fun x => (chunkI x).1) else ([], firstE (l.map fun x => (chunkI x).2))
def itemC (c : Chunk) : Itm × Int :=
  if c.2.1 = 200 ∨ c.2.1 = 201 then (⟨1, (readR c).1, msg0, oth0⟩, (readR c).2)
  else if (readM c).2 = 5 then (⟨3, rep0, msg0, c⟩, 0) else (⟨2, rep0, (readM c).1, oth0⟩, (readM c).2)
def readI (b : List Int) : List Itm × Int :=
  if (splitC b).2 = 0 then (if firstE ((splitC b).1.map fun c => (itemC c).2) = 0 then ((splitC b).1.map fun c => (itemC c).1, 0) else ([], firstE ((splitC b).1.map fun c => (itemC c).2))) else ([], (splitC b).2)
theorem firstE_zero : ∀ {l : List Int}, firstE l = 0 ↔ ∀ e ∈ l, e = 0
  | [] => by simp [firstE]
  | e :: l => by
    unfold firstE
    by_cases h : e = 0
    · rw [if_pos h, firstE_zero]
      simp [h]
    · rw [if_neg h]
      simp [h]
theorem readR_5 (c : Chunk) (h : (readM c).2 = 5) (hr : rightB c = true) : kindC c = 0 ∨ ¬ kindC c = 0 := Classical.em _
/-- The error of a chunk that may be, and is of a message's form, is not 5. -/
theorem doneM_not5 (m : Msg) (s : RdS) (h : s.2 = 0 ∨ s.2 = 2 ∨ s.2 = 3) : ¬ (doneM m s).2 = 5 := by
  unfold doneM
  split
  · show ¬ (0 : Int) = 5; decide
  · show ¬ endS s = 5
    unfold endS
    rcases h with e | e | e
    · rw [e]; simp; split <;> decide
    · rw [e]; simp
    · rw [e]; simp
theorem writeM_err {m : Msg} (h : rightM m = true) : (writeM m).2 = 0 := by rw [writeM_yes h]
theorem writeR_err {r : Rep} (h : rightR r = true) : (writeR r).2 = 0 := by rw [writeR_yes h]
theorem chunkI_no {x : Itm} (h : rightI x = false) : chunkI x = (oth0, 1) := by unfold chunkI; rw [if_pos h]
theorem rightI_1 {x : Itm} (h : rightI x = true) (hk : x.kind = 1) : x.msg = msg0 ∧ x.oth = oth0 ∧ rightR x.rep = true := by
  unfold rightI at h
  rw [if_pos hk] at h
  simpa using h
theorem rightI_2 {x : Itm} (h : rightI x = true) (hk : x.kind = 2) : x.rep = rep0 ∧ x.oth = oth0 ∧ rightM x.msg = true := by
  unfold rightI at h
  rw [if_neg (by rw [hk]; decide), if_pos hk] at h
  simpa using h
theorem rightI_3 {x : Itm} (h : rightI x = true) (hk : x.kind = 3) : x.rep = rep0 ∧ x.msg = msg0 ∧ rightB x.oth = true ∧ strangeC x.oth = true := by
  unfold rightI at h
  rw [if_neg (by rw [hk]; decide), if_neg (by rw [hk]; decide), if_pos hk] at h
  simpa using h
theorem rightI_kind {x : Itm} (h : rightI x = true) : x.kind = 1 ∨ x.kind = 2 ∨ x.kind = 3 := by
  unfold rightI at h
  split at h
  · exact Or.inl ‹_›
  split at h
  · exact Or.inr (Or.inl ‹_›)
  split at h
  · exact Or.inr (Or.inr ‹_›)
  cases h
theorem chunkI_yes {x : Itm} (h : rightI x = true) : (chunkI x).2 = 0 ∧ rightB (chunkI x).1 = true := by
  unfold chunkI
  rw [if_neg (by rw [h]; decide)]
  rcases rightI_kind h with k | k | k
  · obtain ⟨_, _, r⟩ := rightI_1 h k
    rw [if_pos k]
    exact ⟨writeR_err r, writeR_right r⟩
  · obtain ⟨_, _, r⟩ := rightI_2 h k
    rw [if_neg (by rw [k]; decide), if_pos k]
    exact ⟨writeM_err r, writeM_right r⟩
  · obtain ⟨_, _, r, _⟩ := rightI_3 h k
    rw [if_neg (by rw [k]; decide), if_neg (by rw [k]; decide)]
    exact ⟨rfl, r⟩
theorem formM_type (k : Int) : ¬ ((formM k).1 = 200 ∨ (formM k).1 = 201) := by
  unfold formM
  split
  · decide
  · split <;> decide
/-- An item comes back from its chunk. -/
theorem itemC_chunkI {x : Itm} (ok : ItmOK x) (h : rightI x = true) : itemC (chunkI x).1 = (x, 0) := by
  have hx : chunkI x = if x.kind = 1 then writeR x.rep else if x.kind = 2 then writeM x.msg else (x.oth, 0) := by unfold chunkI; rw [if_neg (by rw [h]; decide)]
  rcases rightI_kind h with k | k | k
  · obtain ⟨q1, q2, r⟩ := rightI_1 h k
    rw [hx, if_pos k]
    have hb := readR_writeR ok.rep r
    unfold itemC
    rw [if_pos (by rw [writeR_yes r]; simp only; split <;> simp), hb]
    obtain ⟨⟩ := x
    simp only at *
    rw [k, q1, q2]
  · obtain ⟨q1, q2, r⟩ := rightI_2 h k
    rw [hx, if_neg (by rw [k]; decide), if_pos k]
    have hb := readM_writeM ok.msg r
    unfold itemC
    rw [if_neg (by rw [writeM_yes r]; exact formM_type _), hb, if_neg (show ¬ (0 : Int) = 5 by decide)]
    obtain ⟨⟩ := x
    simp only at *
    rw [k, q1, q2]
  · obtain ⟨q1, q2, r, s⟩ := rightI_3 h k
    rw [hx, if_neg (by rw [k]; decide), if_neg (by rw [k]; decide)]
    unfold strangeC at s
    rw [Bool.and_eq_true, Bool.not_eq_true', Bool.or_eq_false_iff] at s
    obtain ⟨⟨s1, s2⟩, s3⟩ := s
    have s1' : ¬ x.oth.2.1 = 200 := by simpa using s1
    have s2' : ¬ x.oth.2.1 = 201 := by simpa using s2
    have s3' : (readM x.oth).2 = 5 := by simpa using s3
    unfold itemC
    simp only
    rw [if_neg (fun e => e.elim s1' s2'), if_pos s3']
    obtain ⟨⟩ := x
    simp only at *
    rw [k, q1, q2]
theorem rep0_ok : RepOK rep0 := ⟨by decide, by constructor <;> decide, (fun b h => by cases h)⟩
theorem oth0_ok : ChunkOK oth0 := ⟨by decide, by decide, Byt.of_all (l := []) rfl⟩
/-- What is read of a chunk that may be, may be. -/
theorem itemC_right {c : Chunk} (hk : ChunkOK c) (hr : rightB c = true) (h : (itemC c).2 = 0) : rightI (itemC c).1 = true ∧ ItmOK (itemC c).1 := by
  unfold itemC at h ⊢
  split at h
  · rename_i ht
    rw [if_pos ht]
    simp only at h
    have e : readR c = ((readR c).1, 0) := by rw [← h]
    obtain ⟨q1, q2, q3⟩ := writeR_readR hk e
    refine ⟨?_, q2, msg0_ok, oth0_ok⟩
    unfold rightI
    simp [q3]
  · rename_i ht
    rw [if_neg ht]
    split at h
    · rename_i h5
      rw [if_pos h5]
      refine ⟨?_, rep0_ok, msg0_ok, hk⟩
      have hs : strangeC c = true := by
        unfold strangeC
        rw [h5]
        simp
        exact ⟨fun e => ht (Or.inl e), fun e => ht (Or.inr e)⟩
      unfold rightI
      simp [hr, hs]
    · rename_i h5
      rw [if_neg h5]
      simp only at h
      have e : readM c = ((readM c).1, 0) := by rw [← h]
      have q := readM_right hk e
      refine ⟨?_, rep0_ok, readM_ok hk, oth0_ok⟩
      unfold rightI
      simp [q]
end Go.Proofs.Ytlnikmcimmnbmaa
/- Feedback messages: how they read; numbers ahead of one another; pairs. -/
namespace Go.Proofs.Ytlnikmcimmnbmaa
set_option linter.unusedSimpArgs false
set_option linter.unusedVariables false
open Go.RowKit
set_option maxRecDepth 100000

def RAsk : Reader (Int × Int) := fun _ cs a => cs = [.int .u32 a.1, .int .u8 a.2] ∧ U32 a.1 ∧ U8 a.2
def RPr : Reader (Int × Int) := fun _ cs a => cs = [.int .u16 a.1, .int .u16 a.2] ∧ U16 a.1 ∧ U16 a.2
theorem keepsAsk : Keeps RAsk := fun _ _ _ _ _ h => h
theorem keepsPr : Keeps RPr := fun _ _ _ _ _ h => h
theorem wrap_i16 (q : Int) : IntKind.i16.wrap q = (q + 32768) % 65536 - 32768 := by
  simp only [IntKind.wrap, IntKind.bits, IntKind.signed]
  simp
  split <;> omega
theorem ahd_wrap (a b : Int) : wrap64 (IntKind.i16.wrap (IntKind.u16.wrap (b - a))) = ahd a b := by
  rw [wrap_i16, IntKind.wrap_u16]
  unfold ahd wrap64
  omega
theorem ahead_any (a b : Int) (w : World) (ha : U16 a) (hb : U16 b) :
    Calls Try.prog 156 #[.int .u16 a, .int .u16 b] w fun e w' => e = .returned (.int .i64 (ahd a b)) ∧ w = w' := by
  obtain ⟨a0, a1⟩ := ha
  obtain ⟨b0, b1⟩ := hb
  go_enter Try.func156, Try.ntmps156
  go_wp2
  go_ret
  refine ⟨ret_int ?_, rfl⟩
  exact ahd_wrap a b
theorem Ahead_any (a b : Int) (w : World) (ha : U16 a) (hb : U16 b) :
    Calls Try.prog 146 #[.int .u16 a, .int .u16 b] w fun e w' => e = .returned (.int .i64 (ahd a b)) ∧ w = w' := by
  go_enter Try.func146, Try.ntmps146
  go_wp2_with (go_at_call 156; ((with_reducible refine (ahead_any a b _ ha hb).mono ?_); rintro e w1 ⟨rfl, rfl⟩))
  go_ret
  exact ⟨rfl, rfl⟩
theorem Newer_any (a b : Int) (w : World) (ha : U16 a) (hb : U16 b) :
    Calls Try.prog 144 #[.int .u16 a, .int .u16 b] w fun e w' => e = .returned (.bool (decide (0 < ahd a b))) ∧ w = w' := by
  go_enter Try.func144, Try.ntmps144
  go_wp2_with (go_at_call 146; ((with_reducible refine (Ahead_any a b _ ha hb).mono ?_); rintro e w1 ⟨rfl, rfl⟩))
  go_ret
  exact ⟨rfl, rfl⟩
theorem Form_any (k : Int) (w : World) :
    Calls Try.prog 111 #[.int .i64 k] w fun e w' => e = .returned (.tuple #[.int .u8 (formM k).1, .int .u8 (formM k).2]) ∧ w = w' := by
  by_cases h1 : k = 1
  · subst h1
    go_enter Try.func111, Try.ntmps111
    go_wp2
    go_ret2
    exact ⟨rfl, rfl⟩
  by_cases h2 : k = 2
  · subst h2
    go_enter Try.func111, Try.ntmps111
    go_wp2
    go_ret2
    exact ⟨rfl, rfl⟩
  have hf : formM k = (205, 1) := by unfold formM; rw [if_neg h1, if_neg h2]
  have HF := Lib.hid hf
  have b1 : (k == 1) = false := by simpa using h1
  have b2 : (k == 2) = false := by simpa using h2
  clear hf h1 h2
  go_enter Try.func111, Try.ntmps111
  go_wp2
  go_ret2
  exact ⟨by rw [HF.out]; rfl, rfl⟩
end Go.Proofs.Ytlnikmcimmnbmaa
