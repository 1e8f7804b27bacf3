/- Reports: the plain law. -/
import Derived.Test.YtlnikmcimmnbmaaReportA
import Derived.Test.YtlnikmcimmnbmaaPlainB
namespace Go.Proofs.Ytlnikmcimmnbmaa
set_option linter.unusedSimpArgs false
set_option linter.unusedVariables false
open Go.RowKit
set_option maxRecDepth 100000

def inf0 : Inf := ⟨0, 0, 0, 0, 0⟩
def rep0 : Rep := ⟨false, 0, inf0, []⟩
/-- May a report be? -/
def missOK (b : Blk) : Bool := decide (-8388608 ≤ b.miss ∧ b.miss ≤ 8388607)
def rightR (r : Rep) : Bool := (r.snd || decide (r.inf = inf0)) && r.bl.all missOK && decide (r.bl.length ≤ if r.snd then 7 else 8)
/-- The bytes of a block, of blocks, of what a sender tells of itself, of a report. -/
def blkB (b : Blk) : List Int := bysA b.src 4 ++ (bysA b.part 1 ++ (bysA (b.miss % 4294967296) 3 ++ (bysA b.high 4 ++ (bysA b.jit 4 ++ (bysA b.last 4 ++ bysA b.dly 4)))))
def flR (l : List Blk) : List Int := l.flatMap blkB
def infB (i : Inf) : List Int := bysA i.sec 4 ++ (bysA i.frac 4 ++ (bysA i.stamp 4 ++ (bysA i.pkts 4 ++ bysA i.octs 4)))
def headB (r : Rep) : List Int := bysA r.src 4 ++ (if r.snd then infB r.inf else [])
def repB (r : Rep) : List Int := headB r ++ flR r.bl
def writeR (r : Rep) : Chunk × Int := if rightR r then (((r.bl.length : Int), (if r.snd then 200 else 201), repB r, ()), 0) else ((0, 0, [], ()), 1)
/-- What is read. -/
def rdNum (s : RdS) : Int := num (tkB s.1 4)
def readInf (s : RdS) : Inf × RdS :=
  (⟨rdNum s, rdNum (tkS s 4), rdNum (tkS (tkS s 4) 4), rdNum (tkS (tkS (tkS s 4) 4) 4), rdNum (tkS (tkS (tkS (tkS s 4) 4) 4) 4)⟩, tkS (tkS (tkS (tkS (tkS s 4) 4) 4) 4) 4)
def readBlk (s : RdS) : Blk × RdS :=
  (⟨rdNum s, num (tkB (tkS s 4).1 1), sgd (num (tkB (tkS (tkS s 4) 1).1 3)) 24, rdNum (tkS (tkS (tkS s 4) 1) 3), rdNum (tkS (tkS (tkS (tkS s 4) 1) 3) 4), rdNum (tkS (tkS (tkS (tkS (tkS s 4) 1) 3) 4) 4), rdNum (tkS (tkS (tkS (tkS (tkS (tkS s 4) 1) 3) 4) 4) 4)⟩, tkS (tkS (tkS (tkS (tkS (tkS (tkS s 4) 1) 3) 4) 4) 4) 4)
def readBls : Nat → RdS → List Blk × RdS
  | 0, s => ([], s)
  | n + 1, s => ((readBlk s).1 :: (readBls n (readBlk s).2).1, (readBls n (readBlk s).2).2)
def endS (s : RdS) : Int := if ¬ s.2 = 0 then s.2 else if 0 < s.1.length then 4 else 0
def doneR (r : Rep) (s : RdS) : Rep × Int := if endS s = 0 then (r, 0) else (rep0, endS s)
def readR (c : Chunk) : Rep × Int :=
  if rightB c = false then (rep0, 1)
  else if c.2.1 = 200 then doneR ⟨true, rdNum (c.2.2.1, 0), (readInf (tkS (c.2.2.1, 0) 4)).1, (readBls c.1.toNat (readInf (tkS (c.2.2.1, 0) 4)).2).1⟩ (readBls c.1.toNat (readInf (tkS (c.2.2.1, 0) 4)).2).2
  else if c.2.1 = 201 then doneR ⟨false, rdNum (c.2.2.1, 0), inf0, (readBls c.1.toNat (tkS (c.2.2.1, 0) 4)).1⟩ (readBls c.1.toNat (tkS (c.2.2.1, 0) 4)).2
  else (rep0, 5)

theorem readInf_adv {s : RdS} (h : Shut s) : (readInf s).2 = adv s 20 := by
  show tkS (tkS (tkS (tkS (tkS s (4 : Nat)) (4 : Nat)) (4 : Nat)) (4 : Nat)) (4 : Nat) = _
  rw [tkS_adv 4 h, tkS_adv2, tkS_adv2, tkS_adv2, tkS_adv2]
theorem readBlk_adv {s : RdS} (h : Shut s) : (readBlk s).2 = adv s 24 := by
  show tkS (tkS (tkS (tkS (tkS (tkS (tkS s (4 : Nat)) (1 : Nat)) (3 : Nat)) (4 : Nat)) (4 : Nat)) (4 : Nat)) (4 : Nat) = _
  rw [tkS_adv 4 h, tkS_adv2, tkS_adv2, tkS_adv2, tkS_adv2, tkS_adv2, tkS_adv2]
theorem readBls_adv : ∀ (n : Nat) {s : RdS}, Shut s → (readBls n s).2 = adv s (24 * n)
  | 0, s, h => by rw [Nat.mul_zero, adv_zero h]; rfl
  | n + 1, s, h => by
    show (readBls n (readBlk s).2).2 = _
    rw [readBls_adv n (by rw [readBlk_adv h]; exact adv_shut _ _), readBlk_adv h, adv_adv]
    congr 1
    omega
theorem readBls_len : ∀ (n : Nat) (s : RdS), (readBls n s).1.length = n
  | 0, _ => rfl
  | n + 1, s => by
    show ((readBlk s).1 :: (readBls n (readBlk s).2).1).length = _
    rw [List.length_cons, readBls_len n]
/-- How many bytes a body must have. -/
def needR (c : Chunk) : Nat := 4 + (if c.2.1 = 200 then 20 else 0) + 24 * c.1.toNat
theorem endS_0 (l : List Int) : endS (l, 0) = if 0 < l.length then 4 else 0 := by unfold endS; rw [if_neg (by simp)]
theorem endS_3 : endS ([], 3) = 3 := by decide
theorem doneR_2 (r : Rep) (s : RdS) : (doneR r s).2 = endS s := by
  unfold doneR
  split
  · rename_i h; exact h.symm
  · rfl
theorem readR_end (c : Chunk) (hr : rightB c = true) (ht : c.2.1 = 200 ∨ c.2.1 = 201) : (readR c).2 = if c.2.2.1.length < needR c then 3 else if needR c < c.2.2.1.length then 4 else 0 := by
  have hs0 : Shut (c.2.2.1, 0) := fun h => absurd rfl h
  have key : ∀ (r : Rep) (s : RdS) (k : Nat), s = adv (c.2.2.1, 0) k → (doneR r s).2 = if c.2.2.1.length < k then 3 else if k < c.2.2.1.length then 4 else 0 := by
    rintro r s k rfl
    rw [doneR_2]
    unfold adv
    simp only [if_true]
    by_cases h : k ≤ c.2.2.1.length
    · rw [if_pos h, endS_0, List.length_drop]
      by_cases h2 : k < c.2.2.1.length
      · rw [if_pos (by omega), if_neg (by omega), if_pos h2]
      · rw [if_neg (by omega), if_neg (by omega), if_neg h2]
    · rw [if_neg h, endS_3, if_pos (by omega)]
  unfold readR
  rw [if_neg (by rw [hr]; simp)]
  have e4 : tkS (c.2.2.1, 0) 4 = adv (c.2.2.1, 0) 4 := tkS_adv 4 hs0
  rcases ht with ht | ht
  · rw [if_pos ht]
    refine key _ _ _ ?_
    rw [readBls_adv _ (by rw [readInf_adv (by rw [e4]; exact adv_shut _ _)]; exact adv_shut _ _), readInf_adv (by rw [e4]; exact adv_shut _ _), e4, adv_adv, adv_adv]
    unfold needR
    rw [if_pos ht, Nat.add_assoc]
  · rw [if_neg (by rw [ht]; decide), if_pos ht]
    refine key _ _ _ ?_
    rw [readBls_adv _ (by rw [e4]; exact adv_shut _ _), e4, adv_adv]
    unfold needR
    rw [if_neg (by rw [ht]; decide), Nat.add_zero]
theorem rdNum_bysA (x : Int) (hx : U32 x) (r : List Int) : rdNum (bysA x 4 ++ r, 0) = x ∧ tkS (bysA x 4 ++ r, 0) 4 = (r, 0) := by
  obtain ⟨h1, h2⟩ := tkS_bysA x 4 (by decide) r
  refine ⟨?_, h1⟩
  unfold rdNum
  simp only
  rw [show tkB (bysA x 4 ++ r) 4 = bysA x 4 from h2]
  exact num_bysA x 4 hx.1 (by decide) (by have := hx.2; show x < 4294967296; omega)
theorem readInf_infB (i : Inf) (h : InfOK i) (r : List Int) : readInf (infB i ++ r, 0) = (i, (r, 0)) := by
  unfold infB
  simp only [List.append_assoc]
  obtain ⟨a1, b1⟩ := rdNum_bysA i.sec h.sec (bysA i.frac 4 ++ (bysA i.stamp 4 ++ (bysA i.pkts 4 ++ (bysA i.octs 4 ++ r))))
  obtain ⟨a2, b2⟩ := rdNum_bysA i.frac h.frac (bysA i.stamp 4 ++ (bysA i.pkts 4 ++ (bysA i.octs 4 ++ r)))
  obtain ⟨a3, b3⟩ := rdNum_bysA i.stamp h.stamp (bysA i.pkts 4 ++ (bysA i.octs 4 ++ r))
  obtain ⟨a4, b4⟩ := rdNum_bysA i.pkts h.pkts (bysA i.octs 4 ++ r)
  obtain ⟨a5, b5⟩ := rdNum_bysA i.octs h.octs r
  unfold readInf
  simp only [a1, b1, a2, b2, a3, b3, a4, b4, a5, b5]
theorem sgd24 (x : Int) (h : -8388608 ≤ x ∧ x ≤ 8388607) : sgd (x % 16777216) 24 = x := by
  have e1 : two 24 = 16777216 := by decide
  have e2 : two (24 - 1) = 8388608 := by decide
  unfold sgd
  rw [e1, e2, if_neg (by decide)]
  split <;> omega
theorem readBlk_blkB (b : Blk) (h : BlkOK b) (hm : missOK b = true) (r : List Int) : readBlk (blkB b ++ r, 0) = (b, (r, 0)) := by
  have hm2 : -8388608 ≤ b.miss ∧ b.miss ≤ 8388607 := by simpa [missOK] using hm
  unfold blkB
  simp only [List.append_assoc]
  obtain ⟨a1, b1⟩ := rdNum_bysA b.src h.src (bysA b.part 1 ++ (bysA (b.miss % 4294967296) 3 ++ (bysA b.high 4 ++ (bysA b.jit 4 ++ (bysA b.last 4 ++ (bysA b.dly 4 ++ r))))))
  obtain ⟨b2, a2⟩ := tkS_bysA b.part 1 (by decide) (bysA (b.miss % 4294967296) 3 ++ (bysA b.high 4 ++ (bysA b.jit 4 ++ (bysA b.last 4 ++ (bysA b.dly 4 ++ r)))))
  obtain ⟨b3, a3⟩ := tkS_bysA (b.miss % 4294967296) 3 (by decide) (bysA b.high 4 ++ (bysA b.jit 4 ++ (bysA b.last 4 ++ (bysA b.dly 4 ++ r))))
  obtain ⟨a4, b4⟩ := rdNum_bysA b.high h.high (bysA b.jit 4 ++ (bysA b.last 4 ++ (bysA b.dly 4 ++ r)))
  obtain ⟨a5, b5⟩ := rdNum_bysA b.jit h.jit (bysA b.last 4 ++ (bysA b.dly 4 ++ r))
  obtain ⟨a6, b6⟩ := rdNum_bysA b.last h.last (bysA b.dly 4 ++ r)
  obtain ⟨a7, b7⟩ := rdNum_bysA b.dly h.dly r
  have n2 : num (bysA b.part (1 : Nat)) = b.part := num_bysA _ 1 h.part.1 (by decide) (by have := h.part.2; show b.part < 256; omega)
  have n3 : sgd (num (bysA (b.miss % 4294967296) (3 : Nat))) 24 = b.miss := by
    have e : bysA (b.miss % 4294967296) (3 : Nat) = bysA (b.miss % 4294967296 % 16777216) (3 : Nat) := (bysA_mod3 _).symm
    rw [e, num_bysA _ 3 (by omega) (by decide) (by show _ < 16777216; omega), show b.miss % 4294967296 % 16777216 = b.miss % 16777216 by omega]
    exact sgd24 _ hm2
  unfold readBlk
  have b2 : tkS (bysA b.part 1 ++ (bysA (b.miss % 4294967296) 3 ++ (bysA b.high 4 ++ (bysA b.jit 4 ++ (bysA b.last 4 ++ (bysA b.dly 4 ++ r))))), 0) 1 = (bysA (b.miss % 4294967296) 3 ++ (bysA b.high 4 ++ (bysA b.jit 4 ++ (bysA b.last 4 ++ (bysA b.dly 4 ++ r)))), 0) := b2
  have a2 : tkB (bysA b.part 1 ++ (bysA (b.miss % 4294967296) 3 ++ (bysA b.high 4 ++ (bysA b.jit 4 ++ (bysA b.last 4 ++ (bysA b.dly 4 ++ r)))))) 1 = bysA b.part 1 := a2
  have b3 : tkS (bysA (b.miss % 4294967296) 3 ++ (bysA b.high 4 ++ (bysA b.jit 4 ++ (bysA b.last 4 ++ (bysA b.dly 4 ++ r)))), 0) 3 = (bysA b.high 4 ++ (bysA b.jit 4 ++ (bysA b.last 4 ++ (bysA b.dly 4 ++ r))), 0) := b3
  have a3 : tkB (bysA (b.miss % 4294967296) 3 ++ (bysA b.high 4 ++ (bysA b.jit 4 ++ (bysA b.last 4 ++ (bysA b.dly 4 ++ r))))) 3 = bysA (b.miss % 4294967296) 3 := a3
  have n2 : num (bysA b.part 1) = b.part := n2
  have n3 : sgd (num (bysA (b.miss % 4294967296) 3)) 24 = b.miss := n3
  simp only [a1, b1, a2, b2, a3, b3, a4, b4, a5, b5, a6, b6, a7, b7, n2, n3]
theorem flR_cons (b : Blk) (l : List Blk) : flR (b :: l) = blkB b ++ flR l := rfl
theorem readBls_flR : ∀ (l : List Blk) (r : List Int), (∀ b ∈ l, BlkOK b ∧ missOK b = true) → readBls l.length (flR l ++ r, 0) = (l, (r, 0))
  | [], r, _ => rfl
  | b :: l, r, h => by
    have h1 := h b (by simp)
    rw [flR_cons, List.append_assoc]
    show ((readBlk (blkB b ++ (flR l ++ r), 0)).1 :: (readBls l.length (readBlk (blkB b ++ (flR l ++ r), 0)).2).1, (readBls l.length (readBlk (blkB b ++ (flR l ++ r), 0)).2).2) = _
    rw [readBlk_blkB b h1.1 h1.2, readBls_flR l r (fun c hc => h c (by simp [hc]))]
theorem rightR_iff (r : Rep) : rightR r = true ↔ (r.snd = false → r.inf = inf0) ∧ (∀ b ∈ r.bl, missOK b = true) ∧ r.bl.length ≤ if r.snd then 7 else 8 := by
  unfold rightR
  simp only [Bool.and_eq_true, Bool.or_eq_true, decide_eq_true_eq, List.all_eq_true]
  constructor
  · rintro ⟨⟨h1, h2⟩, h3⟩
    refine ⟨fun h => ?_, h2, h3⟩
    rcases h1 with h1 | h1
    · rw [h] at h1; cases h1
    · exact h1
  · rintro ⟨h1, h2, h3⟩
    refine ⟨⟨?_, h2⟩, h3⟩
    cases hs : r.snd with
    | true => exact Or.inl rfl
    | false => exact Or.inr (h1 hs)
theorem blkB_len (b : Blk) : (blkB b).length = 24 := by
  unfold blkB
  simp only [List.length_append, bysA_len2 _ _ (show (0 : Int) ≤ 4 ∧ (4 : Int) ≤ 8 by decide), bysA_len2 _ _ (show (0 : Int) ≤ 1 ∧ (1 : Int) ≤ 8 by decide), bysA_len2 _ _ (show (0 : Int) ≤ 3 ∧ (3 : Int) ≤ 8 by decide)]
  decide
theorem infB_len (i : Inf) : (infB i).length = 20 := by
  unfold infB
  simp only [List.length_append, bysA_len2 _ _ (show (0 : Int) ≤ 4 ∧ (4 : Int) ≤ 8 by decide)]
  decide
theorem flR_len (l : List Blk) : (flR l).length = 24 * l.length := by
  induction l with
  | nil => rfl
  | cons b l ih => rw [flR_cons, List.length_append, blkB_len, ih, List.length_cons]; omega
theorem repB_len (r : Rep) : (repB r).length = 4 + (if r.snd then 20 else 0) + 24 * r.bl.length := by
  unfold repB headB
  rw [List.length_append, List.length_append, flR_len, bysA_len2 _ _ (by decide)]
  cases r.snd with
  | true => simp [infB_len]
  | false => simp
theorem writeR_yes {r : Rep} (h : rightR r = true) : writeR r = (((r.bl.length : Int), (if r.snd then 200 else 201), repB r, ()), 0) := by unfold writeR; rw [if_pos h]
theorem writeR_right {r : Rep} (h : rightR r = true) : rightB (writeR r).1 = true := by
  obtain ⟨_, _, h3⟩ := (rightR_iff r).1 h
  rw [writeR_yes h, rightB_iff]
  have hl := repB_len r
  simp only
  cases hs : r.snd with
  | true => rw [hs] at h3 hl; simp at h3 hl; omega
  | false => rw [hs] at h3 hl; simp at h3 hl; omega
/-- Reports come back from their chunks. -/
theorem readR_writeR {r : Rep} (hk : RepOK r) (h : rightR r = true) : readR (writeR r).1 = (r, 0) := by
  have hr := writeR_right h
  obtain ⟨h1, h2, h3⟩ := (rightR_iff r).1 h
  unfold readR
  rw [if_neg (by rw [hr]; simp), writeR_yes h]
  obtain ⟨s, src, i, bl⟩ := r
  simp only at *
  have hb : ∀ b ∈ bl, BlkOK b ∧ missOK b = true := fun b hb => ⟨hk.bl b hb, h2 b hb⟩
  have hd : doneR ⟨s, src, i, bl⟩ ([], 0) = (⟨s, src, i, bl⟩, 0) := rfl
  cases s with
  | true =>
    have e : repB ⟨true, src, i, bl⟩ = bysA src 4 ++ (infB i ++ (flR bl ++ [])) := by unfold repB headB; simp [List.append_assoc]
    rw [e]
    obtain ⟨a1, b1⟩ := rdNum_bysA src hk.src (infB i ++ (flR bl ++ []))
    simp only [if_true, a1, b1, readInf_infB i hk.inf, Int.toNat_natCast, readBls_flR bl [] hb, hd]
  | false =>
    have hi : i = inf0 := h1 rfl
    subst hi
    have e : repB ⟨false, src, inf0, bl⟩ = bysA src 4 ++ (flR bl ++ []) := by unfold repB headB; simp [List.append_assoc]
    rw [e]
    obtain ⟨a1, b1⟩ := rdNum_bysA src hk.src (flR bl ++ [])
    simp only [a1, b1, Int.toNat_natCast, readBls_flR bl [] hb]
    exact hd
end Go.Proofs.Ytlnikmcimmnbmaa
