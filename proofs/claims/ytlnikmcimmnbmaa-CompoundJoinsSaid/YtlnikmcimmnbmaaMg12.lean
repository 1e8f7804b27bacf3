/- Merged from my texts ReportP, FeedP. -/
import Derived.Test.YtlnikmcimmnbmaaMg11
import Derived.Test.YtlnikmcimmnbmaaMg4
/- Reports: the plain law. -/
namespace Go.Proofs.Ytlnikmcimmnbmaa
set_option linter.unusedSimpArgs false
set_option linter.unusedVariables false
open Go.RowKit
set_option maxRecDepth 100000

def inf0 : Inf := ⟨0, 0, 0, 0, 0⟩
def rep0 : Rep := ⟨false, 0, inf0, []⟩
/-- May a report be? -/
def missOK (b : Blk) : Bool := decide (-8388608 ≤ b.miss ∧ b.miss ≤ 8388607)
def rightR (r : Rep) : Bool := (r.snd || decide (r.inf = inf0)) && r.bl.all missOK && decide (r.bl.length ≤ if r.snd then 7 else 8)
/-- The bytes of a block, of blocks, of what a sender tells of itself, of a report. -/
def blkB (b : Blk) : List Int := bysA b.src 4 ++ (bysA b.part 1 ++ (bysA (b.miss % 4294967296) 3 ++ (bysA b.high 4 ++ (bysA b.jit 4 ++ (bysA b.last 4 ++ bysA b.dly 4)))))
def flR (l : List Blk) : List Int := l.flatMap blkB
def infB (i : Inf) : List Int := bysA i.sec 4 ++ (bysA i.frac 4 ++ (bysA i.stamp 4 ++ (bysA i.pkts 4 ++ bysA i.octs 4)))
def headB (r : Rep) : List Int := bysA r.src 4 ++ (if r.snd then infB r.inf else [])
def repB (r : Rep) : List Int := headB r ++ flR r.bl
def writeR (r : Rep) : Chunk × Int := if rightR r then (((r.bl.length : Int), (if r.snd then 200 else 201), repB r, ()), 0) else ((0, 0, [], ()), 1)
/-- What is read. -/
def rdNum (s : RdS) : Int := num (tkB s.1 4)
def readInf (s : RdS) : Inf × RdS :=
  (⟨rdNum s, rdNum (tkS s 4), rdNum (tkS (tkS s 4) 4), rdNum (tkS (tkS (tkS s 4) 4) 4), rdNum (tkS (tkS (tkS (tkS s 4) 4) 4) 4)⟩, tkS (tkS (tkS (tkS (tkS s 4) 4) 4) 4) 4)
def readBlk (s : RdS) : Blk × RdS :=
  (⟨rdNum s, num (tkB (tkS s 4).1 1), sgd (num (tkB (tkS (tkS s 4) 1).1 3)) 24, rdNum (tkS (tkS (tkS s 4) 1) 3), rdNum (tkS (tkS (tkS (tkS s 4) 1) 3) 4), rdNum (tkS (tkS (tkS (tkS (tkS s 4) 1) 3) 4) 4), rdNum (tkS (tkS (tkS (tkS (tkS (tkS s 4) 1) 3) 4) 4) 4)⟩, tkS (tkS (tkS (tkS (tkS (tkS (tkS s 4) 1) 3) 4) 4) 4) 4)
def readBls : Nat → RdS → List Blk × RdS
  | 0, s => ([], s)
  | n + 1, s => ((readBlk s).1 :: (readBls n (readBlk s).2).1, (readBls n (readBlk s).2).2)
def endS (s : RdS) : Int := if ¬ s.2 = 0 then s.2 else if 0 < s.1.length then 4 else 0
def doneR (r : Rep) (s : RdS) : Rep × Int := if endS s = 0 then (r, 0) else (rep0, endS s)
def readR (c : Chunk) : Rep × Int :=
  if rightB c = false then (rep0, 1)
  else if c.2.1 = 200 then doneR ⟨true, rdNum (c.2.2.1, 0), (readInf (tkS (c.2.2.1, 0) 4)).1, (readBls c.1.toNat (readInf (tkS (c.2.2.1, 0) 4)).2).1⟩ (readBls c.1.toNat (readInf (tkS (c.2.2.1, 0) 4)).2).2
  else if c.2.1 = 201 then doneR ⟨false, rdNum (c.2.2.1, 0), inf0, (readBls c.1.toNat (tkS (c.2.2.1, 0) 4)).1⟩ (readBls c.1.toNat (tkS (c.2.2.1, 0) 4)).2
  else (rep0, 5)

theorem readInf_adv {s : RdS} (h : Shut s) : (readInf s).2 = adv s 20 := by
  show tkS (tkS (tkS (tkS (tkS s (4 : Nat)) (4 : Nat)) (4 : Nat)) (4 : Nat)) (4 : Nat) = _
  rw [tkS_adv 4 h, tkS_adv2, tkS_adv2, tkS_adv2, tkS_adv2]
theorem readBlk_adv {s : RdS} (h : Shut s) : (readBlk s).2 = adv s 24 := by
  show tkS (tkS (tkS (tkS (tkS (tkS (tkS s (4 : Nat)) (1 : Nat)) (3 : Nat)) (4 : Nat)) (4 : Nat)) (4 : Nat)) (4 : Nat) = _
  rw [tkS_adv 4 h, tkS_adv2, tkS_adv2, tkS_adv2, tkS_adv2, tkS_adv2, tkS_adv2]
theorem readBls_adv : ∀ (n : Nat) {s : RdS}, Shut s → (readBls n s).2 = adv s (24 * n)
  | 0, s, h => by rw [Nat.mul_zero, adv_zero h]; rfl
  | n + 1, s, h => by
    show (readBls n (readBlk s).2).2 = _
    rw [readBls_adv n (by rw [readBlk_adv h]; exact adv_shut _ _), readBlk_adv h, adv_adv]
    congr 1
    omega
theorem readBls_len : ∀ (n : Nat) (s : RdS), (readBls n s).1.length = n
  | 0, _ => rfl
  | n + 1, s => by
    show ((readBlk s).1 :: (readBls n (readBlk s).2).1).length = _
    rw [List.length_cons, readBls_len n]
/-- How many bytes a body must have. -/
def needR (c : Chunk) : Nat := 4 + (if c.2.1 = 200 then 20 else 0) + 24 * c.1.toNat
theorem endS_0 (l : List Int) : endS (l, 0) = if 0 < l.length then 4 else 0 := by unfold endS; rw [if_neg (by simp)]
theorem endS_3 : endS ([], 3) = 3 := by decide
theorem doneR_2 (r : Rep) (s : RdS) : (doneR r s).2 = endS s := by
  unfold doneR
  split
  · rename_i h; exact h.symm
  · rfl
theorem readR_end (c : Chunk) (hr : rightB c = true) (ht : c.2.1 = 200 ∨ c.2.1 = 201) : (readR c).2 = if c.2.2.1.length < needR c then 3 else if needR c < c.2.2.1.length then 4 else 0 := by
  have hs0 : Shut (c.2.2.1, 0) := fun h => absurd rfl h
  have key : ∀ (r : Rep) (s : RdS) (k : Nat), s = adv (c.2.2.1, 0) k → (doneR r s).2 = if c.2.2.1.length < k then 3 else if k < c.2.2.1.length then 4 else 0 := by
    rintro r s k rfl
    rw [doneR_2]
    unfold adv
    simp only [if_true]
    by_cases h : k ≤ c.2.2.1.length
    · rw [if_pos h, endS_0, List.length_drop]
      by_cases h2 : k < c.2.2.1.length
      · rw [if_pos (by omega), if_neg (by omega), if_pos h2]
      · rw [if_neg (by omega), if_neg (by omega), if_neg h2]
    · rw [if_neg h, endS_3, if_pos (by omega)]
  unfold readR
  rw [if_neg (by rw [hr]; simp)]
  have e4 : tkS (c.2.2.1, 0) 4 = adv (c.2.2.1, 0) 4 := tkS_adv 4 hs0
  rcases ht with ht | ht
  · rw [if_pos ht]
    refine key _ _ _ ?_
    rw [readBls_adv _ (by rw [readInf_adv (by rw [e4]; exact adv_shut _ _)]; exact adv_shut _ _), readInf_adv (by rw [e4]; exact adv_shut _ _), e4, adv_adv, adv_adv]
    unfold needR
    rw [if_pos ht, Nat.add_assoc]
  · rw [if_neg (by rw [ht]; decide), if_pos ht]
    refine key _ _ _ ?_
    rw [readBls_adv _ (by rw [e4]; exact adv_shut _ _), e4, adv_adv]
    unfold needR
    rw [if_neg (by rw [ht]; decide), Nat.add_zero]
theorem rdNum_bysA (x : Int) (hx : U32 x) (r : List Int) : rdNum (bysA x 4 ++ r, 0) = x ∧ tkS (bysA x 4 ++ r, 0) 4 = (r, 0) := by
  obtain ⟨h1, h2⟩ := tkS_bysA x 4 (by decide) r
  refine ⟨?_, h1⟩
  unfold rdNum
  simp only
  rw [show tkB (bysA x 4 ++ r) 4 = bysA x 4 from h2]
  exact num_bysA x 4 hx.1 (by decide) (by have := hx.2; show x < 4294967296; omega)
theorem readInf_infB (i : Inf) (h : InfOK i) (r : List Int) : readInf (infB i ++ r, 0) = (i, (r, 0)) := by
  unfold infB
  simp only [List.append_assoc]
  obtain ⟨a1, b1⟩ := rdNum_bysA i.sec h.sec (bysA i.frac 4 ++ (bysA i.stamp 4 ++ (bysA i.pkts 4 ++ (bysA i.octs 4 ++ r))))
  obtain ⟨a2, b2⟩ := rdNum_bysA i.frac h.frac (bysA i.stamp 4 ++ (bysA i.pkts 4 ++ (bysA i.octs 4 ++ r)))
  obtain ⟨a3, b3⟩ := rdNum_bysA i.stamp h.stamp (bysA i.pkts 4 ++ (bysA i.octs 4 ++ r))
  obtain ⟨a4, b4⟩ := rdNum_bysA i.pkts h.pkts (bysA i.octs 4 ++ r)
  obtain ⟨a5, b5⟩ := rdNum_bysA i.octs h.octs r
  unfold readInf
  simp only [a1, b1, a2, b2, a3, b3, a4, b4, a5, b5]
theorem sgd24 (x : Int) (h : -8388608 ≤ x ∧ x ≤ 8388607) : sgd (x % 16777216) 24 = x := by
  have e1 : two 24 = 16777216 := by decide
  have e2 : two (24 - 1) = 8388608 := by decide
  unfold sgd
  rw [e1, e2, if_neg (by decide)]
  split <;> omega
theorem readBlk_blkB (b : Blk) (h : BlkOK b) (hm : missOK b = true) (r : List Int) : readBlk (blkB b ++ r, 0) = (b, (r, 0)) := by
  have hm2 : -8388608 ≤ b.miss ∧ b.miss ≤ 8388607 := by simpa [missOK] using hm
  unfold blkB
  simp only [List.append_assoc]
  obtain ⟨a1, b1⟩ := rdNum_bysA b.src h.src (bysA b.part 1 ++ (bysA (b.miss % 4294967296) 3 ++ (bysA b.high 4 ++ (bysA b.jit 4 ++ (bysA b.last 4 ++ (bysA b.dly 4 ++ r))))))
  obtain ⟨b2, a2⟩ := tkS_bysA b.part 1 (by decide) (bysA (b.miss % 4294967296) 3 ++ (bysA b.high 4 ++ (bysA b.jit 4 ++ (bysA b.last 4 ++ (bysA b.dly 4 ++ r)))))
  obtain ⟨b3, a3⟩ := tkS_bysA (b.miss % 4294967296) 3 (by decide) (bysA b.high 4 ++ (bysA b.jit 4 ++ (bysA b.last 4 ++ (bysA b.dly 4 ++ r))))
  obtain ⟨a4, b4⟩ := rdNum_bysA b.high h.high (bysA b.jit 4 ++ (bysA b.last 4 ++ (bysA b.dly 4 ++ r)))
  obtain ⟨a5, b5⟩ := rdNum_bysA b.jit h.jit (bysA b.last 4 ++ (bysA b.dly 4 ++ r))
  obtain ⟨a6, b6⟩ := rdNum_bysA b.last h.last (bysA b.dly 4 ++ r)
  obtain ⟨a7, b7⟩ := rdNum_bysA b.dly h.dly r
  have n2 : num (bysA b.part (1 : Nat)) = b.part := num_bysA _ 1 h.part.1 (by decide) (by have := h.part.2; show b.part < 256; omega)
  have n3 : sgd (num (bysA (b.miss % 4294967296) (3 : Nat))) 24 = b.miss := by
    have e : bysA (b.miss % 4294967296) (3 : Nat) = bysA (b.miss % 4294967296 % 16777216) (3 : Nat) := (bysA_mod3 _).symm
    rw [e, num_bysA _ 3 (by omega) (by decide) (by show _ < 16777216; omega), show b.miss % 4294967296 % 16777216 = b.miss % 16777216 by omega]
    exact sgd24 _ hm2
  unfold readBlk
  have b2 : tkS (bysA b.part 1 ++ (bysA (b.miss % 4294967296) 3 ++ (bysA b.high 4 ++ (bysA b.jit 4 ++ (bysA b.last 4 ++ (bysA b.dly 4 ++ r))))), 0) 1 = (bysA (b.miss % 4294967296) 3 ++ (bysA b.high 4 ++ (bysA b.jit 4 ++ (bysA b.last 4 ++ (bysA b.dly 4 ++ r)))), 0) := b2
  have a2 : tkB (bysA b.part 1 ++ (bysA (b.miss % 4294967296) 3 ++ (bysA b.high 4 ++ (bysA b.jit 4 ++ (bysA b.last 4 ++ (bysA b.dly 4 ++ r)))))) 1 = bysA b.part 1 := a2
  have b3 : tkS (bysA (b.miss % 4294967296) 3 ++ (bysA b.high 4 ++ (bysA b.jit 4 ++ (bysA b.last 4 ++ (bysA b.dly 4 ++ r)))), 0) 3 = (bysA b.high 4 ++ (bysA b.jit 4 ++ (bysA b.last 4 ++ (bysA b.dly 4 ++ r))), 0) := b3
  have a3 : tkB (bysA (b.miss % 4294967296) 3 ++ (bysA b.high 4 ++ (bysA b.jit 4 ++ (bysA b.last 4 ++ (bysA b.dly 4 ++ r))))) 3 = bysA (b.miss % 4294967296) 3 := a3
  have n2 : num (bysA b.part 1) = b.part := n2
  have n3 : sgd (num (bysA (b.miss % 4294967296) 3)) 24 = b.miss := n3
  simp only [a1, b1, a2, b2, a3, b3, a4, b4, a5, b5, a6, b6, a7, b7, n2, n3]
theorem flR_cons (b : Blk) (l : List Blk) : flR (b :: l) = blkB b ++ flR l := rfl
theorem readBls_flR : ∀ (l : List Blk) (r : List Int), (∀ b ∈ l, BlkOK b ∧ missOK b = true) → readBls l.length (flR l ++ r, 0) = (l, (r, 0))
  | [], r, _ => rfl
  | b :: l, r, h => by
    have h1 := h b (by simp)
    rw [flR_cons, List.append_assoc]
    show ((readBlk (blkB b ++ (flR l ++ r), 0)).1 :: (readBls l.length (readBlk (blkB b ++ (flR l ++ r), 0)).2).1, (readBls l.length (readBlk (blkB b ++ (flR l ++ r), 0)).2).2) = _
    rw [readBlk_blkB b h1.1 h1.2, readBls_flR l r (fun c hc => h c (by simp [hc]))]
theorem rightR_iff (r : Rep) : rightR r = true ↔ (r.snd = false → r.inf = inf0) ∧ (∀ b ∈ r.bl, missOK b = true) ∧ r.bl.length ≤ if r.snd then 7 else 8 := by
  unfold rightR
  simp only [Bool.and_eq_true, Bool.or_eq_true, decide_eq_true_eq, List.all_eq_true]
  constructor
  · rintro ⟨⟨h1, h2⟩, h3⟩
    refine ⟨fun h => ?_, h2, h3⟩
    rcases h1 with h1 | h1
    · rw [h] at h1; cases h1
    · exact h1
  · rintro ⟨h1, h2, h3⟩
    refine ⟨⟨?_, h2⟩, h3⟩
    cases hs : r.snd with
    | true => exact Or.inl rfl
    | false => exact Or.inr (h1 hs)
theorem blkB_len (b : Blk) : (blkB b).length = 24 := by
  unfold blkB
  simp only [List.length_append, bysA_len2 _ _ (show (0 : Int) ≤ 4 ∧ (4 : Int) ≤ 8 by decide), bysA_len2 _ _ (show (0 : Int) ≤ 1 ∧ (1 : Int) ≤ 8 by decide), bysA_len2 _ _ (show (0 : Int) ≤ 3 ∧ (3 : Int) ≤ 8 by decide)]
  decide
theorem infB_len (i : Inf) : (infB i).length = 20 := by
  unfold infB
  simp only [List.length_append, bysA_len2 _ _ (show (0 : Int) ≤ 4 ∧ (4 : Int) ≤ 8 by decide)]
  decide
theorem flR_len (l : List Blk) : (flR l).length = 24 * l.length := by
  induction l with
  | nil => rfl
  | cons b l ih => rw [flR_cons, List.length_append, blkB_len, ih, List.length_cons]; omega
theorem repB_len (r : Rep) : (repB r).length = 4 + (if r.snd then 20 else 0) + 24 * r.bl.length := by
  unfold repB headB
  rw [List.length_append, List.length_append, flR_len, bysA_len2 _ _ (by decide)]
  cases r.snd with
  | true => simp [infB_len]
  | false => simp
theorem writeR_yes {r : Rep} (h : rightR r = true) : writeR r = (((r.bl.length : Int), (if r.snd then 200 else 201), repB r, ()), 0) := by unfold writeR; rw [if_pos h]
theorem writeR_right {r : Rep} (h : rightR r = true) : rightB (writeR r).1 = true := by
  obtain ⟨_, _, h3⟩ := (rightR_iff r).1 h
  rw [writeR_yes h, rightB_iff]
  have hl := repB_len r
  simp only
  cases hs : r.snd with
  | true => rw [hs] at h3 hl; simp at h3 hl; omega
  | false => rw [hs] at h3 hl; simp at h3 hl; omega
/-- Reports come back from their chunks. -/
theorem readR_writeR {r : Rep} (hk : RepOK r) (h : rightR r = true) : readR (writeR r).1 = (r, 0) := by
  have hr := writeR_right h
  obtain ⟨h1, h2, h3⟩ := (rightR_iff r).1 h
  unfold readR
  rw [if_neg (by rw [hr]; simp), writeR_yes h]
  obtain ⟨s, src, i, bl⟩ := r
  simp only at *
  have hb : ∀ b ∈ bl, BlkOK b ∧ missOK b = true := fun b hb => ⟨hk.bl b hb, h2 b hb⟩
  have hd : doneR ⟨s, src, i, bl⟩ ([], 0) = (⟨s, src, i, bl⟩, 0) := rfl
  cases s with
  | true =>
    have e : repB ⟨true, src, i, bl⟩ = bysA src 4 ++ (infB i ++ (flR bl ++ [])) := by unfold repB headB; simp [List.append_assoc]
    rw [e]
    obtain ⟨a1, b1⟩ := rdNum_bysA src hk.src (infB i ++ (flR bl ++ []))
    simp only [if_true, a1, b1, readInf_infB i hk.inf, Int.toNat_natCast, readBls_flR bl [] hb, hd]
  | false =>
    have hi : i = inf0 := h1 rfl
    subst hi
    have e : repB ⟨false, src, inf0, bl⟩ = bysA src 4 ++ (flR bl ++ []) := by unfold repB headB; simp [List.append_assoc]
    rw [e]
    obtain ⟨a1, b1⟩ := rdNum_bysA src hk.src (flR bl ++ [])
    simp only [a1, b1, Int.toNat_natCast, readBls_flR bl [] hb]
    exact hd
end Go.Proofs.Ytlnikmcimmnbmaa
/- Feedback messages: plain laws; no program in sight. -/
namespace Go.Proofs.Ytlnikmcimmnbmaa
set_option linter.unusedSimpArgs false
set_option linter.unusedVariables false
open Go.RowKit
set_option maxRecDepth 100000

abbrev U16 (n : Int) : Prop := 0 ≤ n ∧ n ≤ 65535
abbrev U8 (n : Int) : Prop := 0 ≤ n ∧ n ≤ 255
/-- How far b is ahead of a. -/
def ahd (a b : Int) : Int := (b - a + 32768) % 65536 - 32768
/-- A bit of a number. -/
def tb (m : Int) (k : Nat) : Bool := m.toNat.testBit k
def orb (m : Int) (k : Nat) : Int := ((m.toNat ||| 2 ^ k : Nat) : Int)
/-- The numbers of a pair. -/
def prN (p : Int × Int) : List Int := p.1 :: ((List.range 16).filter (tb p.2)).map fun k : Nat => (p.1 + k + 1) % 65536
def prF (l : List (Int × Int)) : List Int := l.flatMap prN
/-- One number more. -/
def prJ (l : List (Int × Int)) (n : Int) : Prop := ¬ l = [] ∧ 1 ≤ ahd (l.getLastD (0, 0)).1 n ∧ ahd (l.getLastD (0, 0)).1 n ≤ 16
instance (l : List (Int × Int)) (n : Int) : Decidable (prJ l n) := by unfold prJ; infer_instance
def prStep (l : List (Int × Int)) (n : Int) : List (Int × Int) :=
  if prJ l n then l.dropLast ++ [((l.getLastD (0, 0)).1, orb (l.getLastD (0, 0)).2 (ahd (l.getLastD (0, 0)).1 n - 1).toNat)] else l ++ [(n, 0)]
def pairsF (l : List Int) : List (Int × Int) := l.foldl prStep []
theorem pairsF_snoc (l : List Int) (n : Int) : pairsF (l ++ [n]) = prStep (pairsF l) n := by simp [pairsF]
theorem pairsF_succ (l : List Int) (j : Nat) (h : j < l.length) : pairsF (l.take (j + 1)) = prStep (pairsF (l.take j)) (l.getD j 0) := by
  rw [List.take_succ_eq_append_getElem h, pairsF_snoc, List.getD_eq_getElem?_getD, List.getElem?_eq_getElem h, Option.getD_some]
theorem prF_snoc (l : List (Int × Int)) (p : Int × Int) : prF (l ++ [p]) = prF l ++ prN p := by simp [prF]
theorem prF_cons (l : List (Int × Int)) (p : Int × Int) : prF (p :: l) = prN p ++ prF l := rfl
theorem prN_ne (p : Int × Int) : prN p ≠ [] := by unfold prN; simp
theorem prN_len (p : Int × Int) : 1 ≤ (prN p).length ∧ (prN p).length ≤ 17 := by
  unfold prN
  rw [List.length_cons, List.length_map]
  have := List.length_filter_le (tb p.2) (List.range 16)
  rw [List.length_range] at this
  omega
theorem prF_len (l : List (Int × Int)) : l.length ≤ (prF l).length ∧ (prF l).length ≤ 17 * l.length := by
  induction l with
  | nil => simp [prF]
  | cons p l ih =>
    have := prN_len p
    rw [prF_cons, List.length_append, List.length_cons]; omega
/-- Each is newer than the one before. -/
def riseB (l : List Int) : Bool := (List.range (l.length - 1)).all fun k => decide (0 < ahd (l.getD k 0) (l.getD (k + 1) 0))
theorem riseB_iff (l : List Int) : riseB l = true ↔ ∀ k, k + 1 < l.length → 0 < ahd (l.getD k 0) (l.getD (k + 1) 0) := by
  unfold riseB
  rw [List.all_eq_true]
  constructor
  · intro h k hk
    have := h k (List.mem_range.2 (by omega))
    simpa using this
  · intro h k hk
    rw [List.mem_range] at hk
    simpa using h k (by omega)
/-- Bits that are laid one behind the other. -/
theorem tb_big {m : Int} {t k : Nat} (h0 : 0 ≤ m) (h : m < 2 ^ t) (hk : t ≤ k) : tb m k = false := by
  unfold tb
  refine Nat.testBit_lt_two_pow (Nat.lt_of_lt_of_le ?_ (Nat.pow_le_pow_right (n := 2) (by decide) hk))
  have : ((m.toNat : Nat) : Int) < ((2 ^ t : Nat) : Int) := by rw [Int.toNat_of_nonneg h0]; simpa using h
  exact_mod_cast this
theorem filter_none {α : Type} {p : α → Bool} {l : List α} (h : ∀ x ∈ l, p x = false) : l.filter p = [] := by
  rw [List.filter_eq_nil_iff]; intro x hx; rw [h x hx]; simp
theorem range_split (a b : Nat) (h : a ≤ b) : List.range b = List.range a ++ (List.range (b - a)).map (a + ·) := by
  rw [← List.range_add]; congr 1; omega
theorem filter_orb {m : Int} {j : Nat} (h0 : 0 ≤ m) (h : m < 2 ^ j) (hj : j < 16) : (List.range 16).filter (tb (orb m j)) = (List.range 16).filter (tb m) ++ [j] := by
  have e : ∀ k, tb (orb m j) k = (tb m k || decide (k = j)) := by
    intro k
    unfold tb orb
    rw [Int.toNat_natCast, Nat.testBit_or, Nat.testBit_two_pow]
    congr 1
    rw [Bool.eq_iff_iff]; simp; omega
  rw [range_split (j + 1) 16 (by omega), List.range_succ, List.filter_append, List.filter_append, List.filter_append, List.filter_append]
  have n1 : ((List.range (16 - (j + 1))).map ((j + 1) + ·)).filter (tb (orb m j)) = [] := filter_none (by
    intro x hx
    obtain ⟨y, _, rfl⟩ := List.mem_map.1 hx
    rw [e, tb_big h0 h (by omega)]
    simp; omega)
  have n2 : ((List.range (16 - (j + 1))).map ((j + 1) + ·)).filter (tb m) = [] := filter_none (by
    intro x hx
    obtain ⟨y, _, rfl⟩ := List.mem_map.1 hx
    exact tb_big h0 h (by omega))
  have n3 : (List.range j).filter (tb (orb m j)) = (List.range j).filter (tb m) := by
    apply List.filter_congr
    intro x hx
    rw [List.mem_range] at hx
    rw [e]
    simp; omega
  have n4 : [j].filter (tb (orb m j)) = [j] := by simp [e]
  have n5 : [j].filter (tb m) = [] := filter_none (by intro x hx; simp at hx; subst hx; exact tb_big h0 h (Nat.le_refl _))
  rw [n1, n2, n3, n4, n5]
  simp
theorem orb_bd {m : Int} {j : Nat} (h0 : 0 ≤ m) (h : m < 2 ^ j) : 0 ≤ orb m j ∧ orb m j < 2 ^ (j + 1) := by
  unfold orb
  refine ⟨by omega, ?_⟩
  have hm : m.toNat < 2 ^ j := by
    have : ((m.toNat : Nat) : Int) < ((2 ^ j : Nat) : Int) := by rw [Int.toNat_of_nonneg h0]; simpa using h
    exact_mod_cast this
  have : m.toNat ||| 2 ^ j < 2 ^ (j + 1) := Nat.or_lt_two_pow (Nat.lt_of_lt_of_le hm (Nat.pow_le_pow_right (by decide) (by omega))) (Nat.pow_lt_pow_right (by decide) (by omega))
  exact_mod_cast this
theorem prN_orb (q m : Int) (j : Nat) (h0 : 0 ≤ m) (h : m < 2 ^ j) (hj : j < 16) : prN (q, orb m j) = prN (q, m) ++ [(q + j + 1) % 65536] := by
  unfold prN
  simp only
  rw [filter_orb h0 h hj, List.map_append]
  rfl
/-- What holds of pairs of numbers that rise. -/
structure PrI (l : List Int) (ps : List (Int × Int)) : Prop where
  flat : prF ps = l
  ok : ∀ p ∈ ps, U16 p.1 ∧ U16 p.2
  ne : ps = [] → l = []
  last : ∀ is q m, ps = is ++ [(q, m)] → ∃ t : Nat, t ≤ 16 ∧ 0 ≤ m ∧ m < 2 ^ t ∧ ahd q (l.getLastD 0) = t
theorem getLastD_snoc {α : Type} (l : List α) (x d : α) : (l ++ [x]).getLastD d = x := by simp [List.getLastD_eq_getLast?]
theorem prI_step {l : List Int} {ps : List (Int × Int)} {n : Int} (h : PrI l ps) (hn : U16 n) (hr : l ≠ [] → U16 (l.getLastD 0) ∧ 0 < ahd (l.getLastD 0) n) : PrI (l ++ [n]) (prStep ps n) := by
  by_cases hj : prJ ps n
  · obtain ⟨hne, h1, h2⟩ := id hj
    unfold prStep
    rw [if_pos hj]
    obtain ⟨is, ⟨q, m⟩, rfl⟩ : ∃ is p, ps = is ++ [p] := ⟨ps.dropLast, ps.getLast hne, (List.dropLast_concat_getLast hne).symm⟩
    rw [getLastD_snoc] at h1 h2 ⊢
    simp only at h1 h2 ⊢
    rw [List.dropLast_concat]
    obtain ⟨t, ht, m0, m1, e⟩ := h.last is q m rfl
    have hl : l ≠ [] := by
      rw [← h.flat, prF_snoc]
      intro e
      exact prN_ne _ (List.append_eq_nil_iff.1 e).2
    obtain ⟨u1, u2⟩ := hr hl
    have hq := (h.ok (q, m) (by simp)).1
    simp only at hq
    obtain ⟨j, hjj⟩ : ∃ j : Nat, ahd q n - 1 = j := ⟨(ahd q n - 1).toNat, by omega⟩
    have htj : t ≤ j := by unfold ahd at *; omega
    have hj16 : j < 16 := by omega
    have hmj : m < 2 ^ j := Int.lt_of_lt_of_le m1 (by
      have := Nat.pow_le_pow_right (n := 2) (by decide) htj
      exact_mod_cast this)
    rw [hjj, Int.toNat_natCast]
    have hnn : (q + j + 1) % 65536 = n := by unfold ahd at *; omega
    have hb := orb_bd m0 hmj
    have hb16 : orb m j < 65536 := Int.lt_of_lt_of_le hb.2 (by
      have h9 : 2 ^ (j + 1) ≤ 65536 := Nat.pow_le_pow_right (n := 2) (j := 16) (by decide) (show j + 1 ≤ 16 by omega)
      have h8 : ((2 ^ (j + 1) : Nat) : Int) ≤ 65536 := by omega
      rw [Int.natCast_pow] at h8
      exact h8)
    refine ⟨?_, ?_, fun e => by simp at e, ?_⟩
    · have e2 := h.flat
      rw [prF_snoc] at e2 ⊢
      rw [prN_orb q m j m0 hmj hj16, hnn, ← List.append_assoc, e2]
    · intro p hp
      rcases List.mem_append.1 hp with hp | hp
      · exact h.ok p (by simp [hp])
      · rw [List.mem_singleton] at hp
        subst hp
        exact ⟨hq, by simp only; omega, by simp only; omega⟩
    · intro is' q' m' e'
      have e3 := List.append_inj_right' e' rfl
      simp only [List.cons.injEq, Prod.mk.injEq, and_true] at e3
      obtain ⟨rfl, rfl⟩ := e3
      exact ⟨j + 1, by omega, hb.1, hb.2, by rw [getLastD_snoc]; omega⟩
  · unfold prStep
    rw [if_neg hj]
    refine ⟨?_, ?_, fun e => by simp at e, ?_⟩
    · rw [prF_snoc, h.flat]
      have : prN (n, 0) = [n] := by
        unfold prN
        simp only
        rw [filter_none (fun x _ => by unfold tb; simp)]
        rfl
      rw [this]
    · intro p hp
      rcases List.mem_append.1 hp with hp | hp
      · exact h.ok p hp
      · rw [List.mem_singleton] at hp
        subst hp
        exact ⟨hn, by simp, by simp⟩
    · intro is' q' m' e'
      have e3 := List.append_inj_right' e' rfl
      simp only [List.cons.injEq, Prod.mk.injEq, and_true] at e3
      obtain ⟨rfl, rfl⟩ := e3
      refine ⟨0, by omega, by omega, by decide, ?_⟩
      rw [getLastD_snoc]
      unfold ahd
      omega
theorem getLastD_eq {l : List Int} (h : l ≠ []) : l.getLastD 0 = l.getD (l.length - 1) 0 := by
  rw [List.getLastD_eq_getLast?, List.getLast?_eq_getElem?, List.getD_eq_getElem?_getD]
theorem prI_all {l : List Int} (hu : ∀ x ∈ l, U16 x) (hr : riseB l = true) : ∀ j, j ≤ l.length → PrI (l.take j) (pairsF (l.take j)) := by
  intro j
  induction j with
  | zero => intro _; exact ⟨rfl, (fun p hp => by cases hp), (fun _ => by simp), (fun is q m e => by simp [pairsF] at e)⟩
  | succ j ih =>
    intro hj
    have hlt : j < l.length := by omega
    rw [pairsF_succ l j hlt, List.take_succ_eq_append_getElem hlt]
    have e : l.getD j 0 = l[j] := by rw [List.getD_eq_getElem?_getD, List.getElem?_eq_getElem hlt, Option.getD_some]
    rw [e]
    refine prI_step (ih (by omega)) (hu _ (List.getElem_mem hlt)) fun hne => ?_
    obtain ⟨i, rfl⟩ : ∃ i, j = i + 1 := ⟨j - 1, by
      have : (l.take j).length ≠ 0 := fun x => hne (List.eq_nil_of_length_eq_zero x)
      rw [List.length_take] at this; omega⟩
    have e2 : (l.take (i + 1)).getLastD 0 = l.getD i 0 := by
      rw [getLastD_eq hne, List.length_take, List.getD_eq_getElem?_getD, List.getD_eq_getElem?_getD, List.getElem?_take, show min (i + 1) l.length - 1 = i by omega, if_pos (by omega)]
    rw [e2]
    have e3 : l.getD i 0 = l[i] := by rw [List.getD_eq_getElem?_getD, List.getElem?_eq_getElem (by omega), Option.getD_some]
    have := (riseB_iff l).1 hr i hlt
    rw [e] at this
    exact ⟨by rw [e3]; exact hu _ (List.getElem_mem _), this⟩
theorem prI_of {l : List Int} (hu : ∀ x ∈ l, U16 x) (hr : riseB l = true) : PrI l (pairsF l) := by
  have := prI_all hu hr l.length (Nat.le_refl _)
  rwa [List.take_length] at this
/-- Pairs are as few as may be. -/
theorem prStep_len (l : List (Int × Int)) (n : Int) : l.length ≤ (prStep l n).length ∧ (prStep l n).length ≤ l.length + 1 := by
  unfold prStep
  split
  · rename_i h
    have := List.length_pos_iff.2 h.1
    rw [List.length_append, List.length_dropLast, List.length_singleton]; omega
  · rw [List.length_append, List.length_singleton]; omega
theorem fold_join (q : Int) : ∀ (ys : List Int) (is : List (Int × Int)) (m : Int), (∀ y ∈ ys, 1 ≤ ahd q y ∧ ahd q y ≤ 16) → (ys.foldl prStep (is ++ [(q, m)])).length = is.length + 1
  | [], is, m, _ => by simp
  | y :: ys, is, m, h => by
    have h1 := h y (by simp)
    have e : prStep (is ++ [(q, m)]) y = is ++ [(q, orb m (ahd q y - 1).toNat)] := by
      unfold prStep
      rw [if_pos ⟨by simp, by rw [getLastD_snoc]; exact h1.1, by rw [getLastD_snoc]; exact h1.2⟩, getLastD_snoc, List.dropLast_concat]
    rw [List.foldl_cons, e]
    exact fold_join q ys is _ fun z hz => h z (by simp [hz])
theorem fold_near : ∀ (ys : List Int) (acc : List (Int × Int)), ys.Pairwise (fun a b => 1 ≤ ahd a b ∧ ahd a b ≤ 16) → (ys.foldl prStep acc).length ≤ acc.length + 1
  | [], acc, _ => by simp
  | y :: ys, acc, h => by
    rw [List.pairwise_cons] at h
    rw [List.foldl_cons]
    by_cases hj : prJ acc y
    · have e : (prStep acc y).length = acc.length := by
        unfold prStep
        rw [if_pos hj, List.length_append, List.length_dropLast, List.length_singleton]
        have := List.length_pos_iff.2 hj.1
        omega
      have := fold_near ys (prStep acc y) h.2
      omega
    · have e : prStep acc y = acc ++ [(y, 0)] := by unfold prStep; rw [if_neg hj]
      rw [e, fold_join y ys acc 0 h.1]
      exact Nat.le_refl _
theorem prN_near (p : Int × Int) (hp : U16 p.1) : (prN p).Pairwise (fun a b => 1 ≤ ahd a b ∧ ahd a b ≤ 16) := by
  unfold prN
  rw [List.pairwise_cons]
  constructor
  · intro y hy
    obtain ⟨k, hk, rfl⟩ := List.mem_map.1 hy
    have := List.mem_range.1 (List.mem_filter.1 hk).1
    unfold ahd
    omega
  · rw [List.pairwise_map]
    have h1 : ((List.range 16).filter (tb p.2)).Pairwise (· < ·) := (List.pairwise_lt_range (n := 16)).filter _
    have h2 : ((List.range 16).filter (tb p.2)).Pairwise (fun a b => a < b ∧ a < 16 ∧ b < 16) := by
      refine List.Pairwise.imp_of_mem ?_ h1
      intro a b ha hb hab
      exact ⟨hab, List.mem_range.1 (List.mem_filter.1 ha).1, List.mem_range.1 (List.mem_filter.1 hb).1⟩
    refine h2.imp ?_
    rintro a b ⟨h1, h2, h3⟩
    unfold ahd
    omega
theorem pairs_few : ∀ (ps : List (Int × Int)) (acc : List (Int × Int)), (∀ p ∈ ps, U16 p.1) → ((prF ps).foldl prStep acc).length ≤ acc.length + ps.length
  | [], acc, _ => by simp [prF]
  | p :: ps, acc, h => by
    rw [prF_cons, List.foldl_append, List.length_cons]
    have h1 := fold_near (prN p) acc (prN_near p (h p (by simp)))
    have h2 := pairs_few ps ((prN p).foldl prStep acc) fun q hq => h q (by simp [hq])
    omega
end Go.Proofs.Ytlnikmcimmnbmaa
