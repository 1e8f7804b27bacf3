/- Descriptions come back; bits that are not named change nothing. -/
import Derived.Test.YtlnikmcimmnbmaaProbeP
namespace Go.Proofs.Ytlnikmcimmnbmaa
set_option linter.unusedSimpArgs false
set_option linter.unusedVariables false
open Go.RowKit
set_option maxRecDepth 100000

theorem bysA_one (x : Int) : bysA x 1 = [x % 256] := by
  rw [bysA_pos _ _ (by decide)]
  show [by8 x 0] = _
  unfold by8
  simp
theorem bysA_two (x : Int) : bysA x 2 = [x / 256 % 256, x % 256] := by
  rw [bysA_pos _ _ (by decide)]
  show [by8 x 1, by8 x 0] = _
  unfold by8
  simp
theorem nB_cons (x : Int) (r : List Int) (e : Int) (h : 0 ≤ x ∧ x ≤ 255) : nB (x :: r, e) = x := by
  unfold nB tkB
  rw [if_pos (by simp only [List.length_cons]; omega)]
  show num [x] = x
  unfold num
  simp
  omega
theorem tkS_cons (x : Int) (r : List Int) (e : Int) : tkS (x :: r, e) 1 = (r, e) := by
  unfold tkS tkL tkE
  rw [if_neg (by simp; omega)]
  rfl
theorem nB_nil (e : Int) : nB ([], e) = 0 := by
  unfold nB tkB
  rw [if_neg (by simp)]
  rfl
theorem tkS_nil (e : Int) : tkS ([], e) 1 = ([], if e = 0 then 3 else e) := by
  unfold tkS tkL tkE
  by_cases h : e = 0 <;> simp [h]
structure DsOK (d : Ds) : Prop where
  pt : 0 ≤ d.pt ∧ d.pt ≤ 255
theorem told_bits (d : Ds) : bit (toldD d) 128 = decide (d.pic ≠ -1) ∧ bit (toldD d) 64 = decide (d.bs ≠ -1) ∧ bit (toldD d) 32 = decide (d.tr ≠ -1) ∧ bit (toldD d) 16 = decide (d.ky ≠ -1) ∧ 0 ≤ toldD d ∧ toldD d ≤ 240 := by
  unfold toldD b1 bit
  by_cases h1 : d.pic = -1 <;> by_cases h2 : d.bs = -1 <;> by_cases h3 : d.tr = -1 <;> by_cases h4 : d.ky = -1 <;> simp [h1, h2, h3, h4]
theorem one_bits {d : Ds} (hr : d.pt ≤ 7) (hk : DsOK d) : bit (oneD d) 128 = decide (toldD d ≠ 0) ∧ bit (oneD d) 32 = d.lo ∧ bit (oneD d) 16 = d.st ∧ oneD d % 8 = d.pt ∧ 0 ≤ oneD d ∧ oneD d ≤ 255 := by
  have := hk.pt
  unfold oneD b1 bit
  by_cases h1 : toldD d = 0 <;> cases d.lo <;> cases d.st <;> simp [h1] <;> omega
theorem headD_dsB {d : Ds} (hr : rightD d = true) (hk : DsOK d) (r : List Int) : headD (bysA (oneD d) 1 ++ ((if toldD d ≠ 0 then bysA (toldD d) 1 else []) ++ r), 0) = (oneD d, toldD d, (r, 0)) := by
  obtain ⟨h1, _⟩ := (rightD_iff d).1 hr
  obtain ⟨o1, _, _, _, o5, o6⟩ := one_bits h1 hk
  obtain ⟨_, _, _, _, t5, t6⟩ := told_bits d
  rw [bysA_one, bysA_one, Int.emod_eq_of_lt o5 (by omega), Int.emod_eq_of_lt t5 (by omega)]
  unfold headD
  show (if bit (nB (oneD d :: ((if toldD d ≠ 0 then [toldD d] else []) ++ r), 0)) 128 then _ else _) = _
  simp only [List.cons_append, List.nil_append]
  rw [nB_cons _ _ _ ⟨o5, o6⟩, tkS_cons, o1]
  by_cases h : toldD d = 0
  · rw [h]
    simp
  · simp only [ne_eq, h, not_false_eq_true, decide_true, if_true, List.cons_append, List.nil_append]
    rw [nB_cons _ _ _ ⟨t5, by omega⟩, tkS_cons]
theorem picD_dsB {d : Ds} (hr : rightD d = true) (r : List Int) : picD (toldD d) ((if d.wd then bysA (32768 + d.pic) 2 else if d.pic ≠ -1 then bysA d.pic 1 else []) ++ r, 0) = ((d.pic, d.wd), (r, 0)) := by
  obtain ⟨_, ⟨h2, h3⟩, _, _, _, h6, _⟩ := (rightD_iff d).1 hr
  obtain ⟨t1, _⟩ := told_bits d
  unfold picD
  rw [t1]
  cases hw : d.wd with
  | true =>
    have hp := h6 hw
    rw [hw] at h3
    simp only [if_true] at h3
    simp only [ne_eq, hp, not_false_eq_true, decide_true, if_true]
    rw [bysA_two]
    simp only [List.cons_append, List.nil_append]
    have e1 : (32768 + d.pic) / 256 % 256 = 128 + d.pic / 256 := by omega
    have e2 : (32768 + d.pic) % 256 = d.pic % 256 := by omega
    rw [e1, e2, nB_cons _ _ _ ⟨by omega, by omega⟩, tkS_cons, nB_cons _ _ _ ⟨by omega, by omega⟩, tkS_cons, if_neg (by omega)]
    congr 2
    omega
  | false =>
    rw [hw] at h3
    simp only [Bool.false_eq_true, if_false] at h3
    by_cases hp : d.pic = -1
    · simp [hp]
    · simp only [ne_eq, hp, not_false_eq_true, decide_true, if_true, Bool.false_eq_true, if_false]
      rw [bysA_one, Int.emod_eq_of_lt (by omega) (by omega)]
      simp only [List.cons_append, List.nil_append]
      rw [nB_cons _ _ _ ⟨by omega, by omega⟩, tkS_cons, if_pos (by omega)]
theorem basD_dsB {d : Ds} (hr : rightD d = true) (r : List Int) : basD (toldD d) ((if d.bs ≠ -1 then bysA d.bs 1 else []) ++ r, 0) = (d.bs, (r, 0)) := by
  obtain ⟨_, _, ⟨h2, h3⟩, _⟩ := (rightD_iff d).1 hr
  obtain ⟨_, t1, _⟩ := told_bits d
  unfold basD
  rw [t1]
  by_cases hp : d.bs = -1
  · simp [hp]
  · simp only [ne_eq, hp, not_false_eq_true, decide_true, if_true]
    rw [bysA_one, Int.emod_eq_of_lt (by omega) (by omega)]
    simp only [List.cons_append, List.nil_append]
    rw [nB_cons _ _ _ ⟨by omega, by omega⟩, tkS_cons]
theorem last_bits {d : Ds} (hr : rightD d = true) : (d.tr ≠ -1 → lastD d / 64 = d.tr) ∧ (d.tr ≠ -1 → bit (lastD d) 32 = d.sy) ∧ (d.ky ≠ -1 → lastD d % 32 = d.ky) ∧ 0 ≤ lastD d ∧ lastD d ≤ 255 := by
  obtain ⟨_, _, _, ⟨h2, h3⟩, ⟨h4, h5⟩, _, _⟩ := (rightD_iff d).1 hr
  unfold lastD b1 bit
  have e1 : max 0 d.tr = if d.tr = -1 then 0 else d.tr := by split <;> omega
  have e2 : max 0 d.ky = if d.ky = -1 then 0 else d.ky := by split <;> omega
  rw [e1, e2]
  by_cases q1 : d.tr = -1 <;> by_cases q2 : d.ky = -1 <;> cases d.sy <;> simp [q1, q2] <;> omega
theorem bothD_dsB {d : Ds} (hr : rightD d = true) (r : List Int) : bothD (toldD d) ((if d.tr ≠ -1 ∨ d.ky ≠ -1 then bysA (lastD d) 1 else []) ++ r, 0) = (if d.tr ≠ -1 ∨ d.ky ≠ -1 then lastD d else 0, (r, 0)) := by
  obtain ⟨_, _, t1, t2, _⟩ := told_bits d
  obtain ⟨_, _, _, l1, l2⟩ := last_bits hr
  unfold bothD
  rw [t1, t2]
  by_cases hp : d.tr ≠ -1 ∨ d.ky ≠ -1
  · have : (decide (d.tr ≠ -1) || decide (d.ky ≠ -1)) = true := by simpa using hp
    rw [this, if_pos hp, if_pos hp, if_pos rfl, bysA_one, Int.emod_eq_of_lt l1 (by omega)]
    simp only [List.cons_append, List.nil_append]
    rw [nB_cons _ _ _ ⟨by omega, by omega⟩, tkS_cons]
  · have : (decide (d.tr ≠ -1) || decide (d.ky ≠ -1)) = false := by simpa using hp
    rw [this, if_neg hp, if_neg hp]
    simp
/-- Descriptions come back from their bytes, whatever stands behind. -/
theorem readD_dsB {d : Ds} (hr : rightD d = true) (hk : DsOK d) (r : List Int) : readD (dsB d ++ r) = (d, ((dsB d).length : Int), 0) := by
  have hr' := (rightD_iff d).1 hr
  have e : dsB d ++ r = bysA (oneD d) 1 ++ ((if toldD d ≠ 0 then bysA (toldD d) 1 else []) ++ ((if d.wd then bysA (32768 + d.pic) 2 else if d.pic ≠ -1 then bysA d.pic 1 else []) ++ ((if d.bs ≠ -1 then bysA d.bs 1 else []) ++ ((if d.tr ≠ -1 ∨ d.ky ≠ -1 then bysA (lastD d) 1 else []) ++ r)))) := by
    unfold dsB; simp only [List.append_assoc]
  unfold readD
  rw [show ∀ n : Int, endD n (restD (headD (dsB d ++ r, 0)).1 (headD (dsB d ++ r, 0)).2.1 (headD (dsB d ++ r, 0)).2.2) = endD n (restD (oneD d) (toldD d) (((if d.wd then bysA (32768 + d.pic) 2 else if d.pic ≠ -1 then bysA d.pic 1 else []) ++ ((if d.bs ≠ -1 then bysA d.bs 1 else []) ++ ((if d.tr ≠ -1 ∨ d.ky ≠ -1 then bysA (lastD d) 1 else []) ++ r))), 0)) from fun n => by rw [e, headD_dsB hr hk]]
  unfold restD
  rw [picD_dsB hr, basD_dsB hr, bothD_dsB hr]
  obtain ⟨_, t2, t3, t4, _⟩ := told_bits d
  obtain ⟨_, o2, o3, o4, _⟩ := one_bits hr'.1 hk
  obtain ⟨l1, l2, l3, _⟩ := last_bits hr
  unfold endD
  simp only
  rw [if_neg (by decide)]
  have hl : ((dsB d ++ r).length : Int) - r.length = (dsB d).length := by rw [List.length_append]; omega
  rw [hl]
  congr 1
  unfold mkD
  rw [o2, o3, o4, t3, t4]
  obtain ⟨lo, st, pt, pic, wd, bs, tr, sy, ky⟩ := d
  simp only at *
  congr 1
  · by_cases q : tr = -1
    · simp [q]
    · simp [q, l1 q]
  · by_cases q : tr = -1
    · cases sy
      · simp [q]
      · exact absurd q (hr'.2.2.2.2.2.2 rfl)
    · simp [q, l2 q]
  · by_cases q : ky = -1
    · simp [q]
    · simp [q, l3 q]
theorem begins_dsB {d : Ds} (hr : rightD d = true) (hk : DsOK d) (r : List Int) : beginsD (dsB d ++ r) = (d.st && decide (d.pt = 0) && decide (0 < r.length) && decide (r.getD 0 0 % 2 = 0)) := by
  unfold beginsD
  rw [readD_dsB hr hk r]
  simp only [decide_true, Bool.true_and, Int.toNat_natCast]
  have e1 : decide (((dsB d).length : Int) < ((dsB d ++ r).length : Int)) = decide (0 < r.length) := by
    rw [List.length_append]
    by_cases h : 0 < r.length
    · rw [decide_eq_true h, decide_eq_true (by omega)]
    · rw [decide_eq_false h, decide_eq_false (by omega)]
  have e2 : (dsB d ++ r).getD (dsB d).length 0 = r.getD 0 0 := by
    rw [List.getD_eq_getElem?_getD, List.getElem?_append_right (Nat.le_refl _), Nat.sub_self, ← List.getD_eq_getElem?_getD]
  simp only [e1, e2]
/-- A byte's bits that are not named, turned. -/
def flip1 (x : Int) : Int := bits .xor .u8 x 72
def flip2 (x : Int) : Int := bits .xor .u8 x 15
theorem flips : ∀ m : Fin 256, (bit (flip1 m.val) 128 = bit m.val 128 ∧ bit (flip1 m.val) 32 = bit m.val 32 ∧ bit (flip1 m.val) 16 = bit m.val 16 ∧ flip1 m.val % 8 = (m.val : Int) % 8 ∧ 0 ≤ flip1 m.val ∧ flip1 m.val ≤ 255 ∧ bit m.val 128 = decide (128 ≤ (m.val : Int)) ∧ bit (flip2 m.val) 128 = bit m.val 128 ∧ bit (flip2 m.val) 64 = bit m.val 64) ∧ bit (flip2 m.val) 32 = bit m.val 32 ∧ bit (flip2 m.val) 16 = bit m.val 16 ∧ 0 ≤ flip2 m.val ∧ flip2 m.val ≤ 255 := of_decide_eq_true (by kernel_rfl)
theorem flips' {x : Int} (h : 0 ≤ x ∧ x ≤ 255) : (bit (flip1 x) 128 = bit x 128 ∧ bit (flip1 x) 32 = bit x 32 ∧ bit (flip1 x) 16 = bit x 16 ∧ flip1 x % 8 = x % 8 ∧ 0 ≤ flip1 x ∧ flip1 x ≤ 255 ∧ bit x 128 = decide (128 ≤ x) ∧ bit (flip2 x) 128 = bit x 128 ∧ bit (flip2 x) 64 = bit x 64) ∧ bit (flip2 x) 32 = bit x 32 ∧ bit (flip2 x) 16 = bit x 16 ∧ 0 ≤ flip2 x ∧ flip2 x ≤ 255 := by
  obtain ⟨m, rfl⟩ := Int.eq_ofNat_of_zero_le h.1
  exact flips ⟨m, by omega⟩
/-- The bytes whose bits that are not named were turned. -/
def loose (b : List Int) : List Int := match b with
  | [] => []
  | [x] => [flip1 x]
  | x :: y :: r => flip1 x :: (if 128 ≤ flip1 x then flip2 y else y) :: r
theorem loose_len (b : List Int) : (loose b).length = b.length := by
  unfold loose
  split <;> rfl
theorem restD_len (f t : Int) (s : RdS) : (restD f t s).2.1.length ≤ s.1.length := by
  have h1 : ∀ s : RdS, (tkS s 1).1.length ≤ s.1.length := fun s => by unfold tkS tkL; rw [List.length_drop]; omega
  unfold restD
  have hp : (picD t s).2.1.length ≤ s.1.length := by
    unfold picD
    split
    · split
      · exact h1 _
      · exact Nat.le_trans (h1 _) (h1 _)
    · exact Nat.le_refl _
  have hb : ∀ s, (basD t s).2.1.length ≤ s.1.length := fun s => by
    unfold basD
    split
    · exact h1 _
    · exact Nat.le_refl _
  have hq : ∀ s, (bothD t s).2.1.length ≤ s.1.length := fun s => by
    unfold bothD
    split
    · exact h1 _
    · exact Nat.le_refl _
  exact Nat.le_trans (hq _) (Nat.le_trans (hb _) hp)
theorem endD_ok {n : Int} {x : Ds × RdS} (h : (endD n x).2.2 = 0) : (endD n x).2.1 = n - x.2.1.length := by
  unfold endD at *
  split at h
  · simp at h
  · rename_i h3
    rw [if_neg h3]
theorem restD_like {f f' t t' : Int} (s : RdS) (h1 : bit f' 32 = bit f 32) (h2 : bit f' 16 = bit f 16) (h3 : f' % 8 = f % 8) (h4 : bit t' 128 = bit t 128) (h5 : bit t' 64 = bit t 64) (h6 : bit t' 32 = bit t 32) (h7 : bit t' 16 = bit t 16) : restD f' t' s = restD f t s := by
  have e1 : picD t' s = picD t s := by unfold picD; rw [h4]
  have e2 : ∀ s, basD t' s = basD t s := fun s => by unfold basD; rw [h5]
  have e3 : ∀ s, bothD t' s = bothD t s := fun s => by unfold bothD; rw [h6, h7]
  unfold restD mkD
  rw [e1, e2, e3, h1, h2, h3, h6, h7]
theorem readD_loose {b : List Int} (hb : Byt b) : readD (loose b) = readD b ∧ ((readD b).2.2 = 0 → (loose b).getD (readD b).2.1.toNat 0 = b.getD (readD b).2.1.toNat 0) := by
  cases b with
  | nil => exact ⟨rfl, fun _ => rfl⟩
  | cons x r =>
    have hx : 0 ≤ x ∧ x ≤ 255 := by simpa using hb 0
    obtain ⟨⟨a1, a2, a3, a4, a5, a6, a7, _⟩, _⟩ := flips' hx
    obtain ⟨⟨_, _, _, _, _, _, a8, _⟩, _⟩ := flips' ⟨a5, a6⟩
    cases r with
    | nil =>
      have hd : ∀ z : Int, 0 ≤ z ∧ z ≤ 255 → headD ([z], 0) = if bit z 128 then (z, 0, ([], 3)) else (z, 0, ([], 0)) := fun z hz => by
        unfold headD
        rw [nB_cons _ _ _ hz, tkS_cons, nB_nil, tkS_nil]
        rfl
      have e : loose [x] = [flip1 x] := rfl
      have key : readD [flip1 x] = readD [x] := by
        unfold readD
        rw [hd _ ⟨a5, a6⟩, hd _ hx, a1]
        cases bit x 128 <;> simp [restD_like (f' := flip1 x) (f := x) (t' := 0) (t := 0) _ a2 a3 a4 rfl rfl rfl rfl]
      rw [e]
      refine ⟨key, fun h => ?_⟩
      have hn : (readD [x]).2.1 = 1 := by
        unfold readD at h ⊢
        rw [endD_ok h]
        have hz : ∀ q : Int × Int × RdS, q.2.2.1 = [] → (([x].length : Nat) : Int) - (restD q.1 q.2.1 q.2.2).2.1.length = 1 := fun q hq => by
          have := restD_len q.1 q.2.1 q.2.2
          rw [hq] at this
          simp only [List.length_nil, List.length_cons] at this ⊢
          omega
        refine hz (headD ([x], 0)) ?_
        rw [hd _ hx]
        split <;> rfl
      rw [hn]
      rfl
    | cons y r =>
      have hy : 0 ≤ y ∧ y ≤ 255 := by simpa using hb 1
      obtain ⟨⟨_, _, _, _, _, _, _, c1, c2⟩, c3, c4, c5, c6⟩ := flips' hy
      have hd : ∀ z u : Int, 0 ≤ z ∧ z ≤ 255 → 0 ≤ u ∧ u ≤ 255 → headD (z :: u :: r, 0) = if bit z 128 then (z, u, (r, 0)) else (z, 0, (u :: r, 0)) := fun z u hz hu => by
        unfold headD
        rw [nB_cons _ _ _ hz, tkS_cons, nB_cons _ _ _ hu, tkS_cons]
      have e : loose (x :: y :: r) = flip1 x :: (if 128 ≤ flip1 x then flip2 y else y) :: r := rfl
      have hq : (128 ≤ flip1 x) ↔ bit x 128 = true := by rw [← a1, a8]; simp
      by_cases h8 : bit x 128 = true
      · have e2 : loose (x :: y :: r) = flip1 x :: flip2 y :: r := by rw [e, if_pos (hq.2 h8)]
        rw [e2]
        refine ⟨?_, fun h => ?_⟩
        · unfold readD
          rw [hd _ _ ⟨a5, a6⟩ ⟨c5, c6⟩, hd _ _ hx hy, a1, h8]
          simp only [if_true]
          rw [restD_like (f' := flip1 x) (f := x) (t' := flip2 y) (t := y) _ a2 a3 a4 c1 c2 c3 c4]
          rfl
        · have hn : 2 ≤ (readD (x :: y :: r)).2.1 := by
            unfold readD at h ⊢
            rw [endD_ok h, hd _ _ hx hy, h8]
            simp only [if_true]
            have := restD_len x y (r, 0)
            simp only [List.length_cons] at this ⊢
            omega
          obtain ⟨k, hk⟩ : ∃ k : Nat, (readD (x :: y :: r)).2.1.toNat = k + 2 := ⟨(readD (x :: y :: r)).2.1.toNat - 2, by omega⟩
          rw [hk]
          rfl
      · have e2 : loose (x :: y :: r) = flip1 x :: y :: r := by rw [e, if_neg (fun g => h8 (hq.1 g))]
        rw [e2]
        refine ⟨?_, fun h => ?_⟩
        · unfold readD
          rw [hd _ _ ⟨a5, a6⟩ hy, hd _ _ hx hy, a1]
          simp only [h8]
          rw [if_neg (by simp), if_neg (by simp)]
          simp only
          rw [restD_like (f' := flip1 x) (f := x) (t' := 0) (t := 0) _ a2 a3 a4 rfl rfl rfl rfl]
          rfl
        · have hn : 1 ≤ (readD (x :: y :: r)).2.1 := by
            unfold readD at h ⊢
            rw [endD_ok h, hd _ _ hx hy, if_neg h8]
            have := restD_len x 0 (y :: r, 0)
            simp only [List.length_cons] at this ⊢
            omega
          obtain ⟨k, hk⟩ : ∃ k : Nat, (readD (x :: y :: r)).2.1.toNat = k + 1 := ⟨(readD (x :: y :: r)).2.1.toNat - 1, by omega⟩
          rw [hk]
          rfl
theorem begins_loose {b : List Int} (hb : Byt b) : beginsD (loose b) = beginsD b := by
  obtain ⟨h1, h2⟩ := readD_loose hb
  unfold beginsD
  rw [h1, loose_len]
  by_cases h : (readD b).2.2 = 0
  · rw [h2 h]
  · simp [h]
end Go.Proofs.Ytlnikmcimmnbmaa
