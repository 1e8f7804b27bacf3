/- Reports: the plain law: chunks from reports. -/
import Derived.Test.YtlnikmcimmnbmaaReportP
namespace Go.Proofs.Ytlnikmcimmnbmaa
set_option linter.unusedSimpArgs false
set_option linter.unusedVariables false
open Go.RowKit
set_option maxRecDepth 100000

theorem inf_exists {L : List Int} (hb : Byt L) (h : 20 ≤ L.length) : ∃ i r, L = infB i ++ r ∧ InfOK i ∧ Byt r := by
  obtain ⟨x0, r0, rfl, u0, b0⟩ := u32_exists hb (by omega)
  rw [List.length_append, bysA_len2 _ _ (by decide)] at h
  obtain ⟨x1, r1, rfl, u1, b1⟩ := u32_exists b0 (by simp at h; omega)
  rw [List.length_append, bysA_len2 _ _ (by decide)] at h
  obtain ⟨x2, r2, rfl, u2, b2⟩ := u32_exists b1 (by simp at h; omega)
  rw [List.length_append, bysA_len2 _ _ (by decide)] at h
  obtain ⟨x3, r3, rfl, u3, b3⟩ := u32_exists b2 (by simp at h; omega)
  rw [List.length_append, bysA_len2 _ _ (by decide)] at h
  obtain ⟨x4, r4, rfl, u4, b4⟩ := u32_exists b3 (by simp at h; omega)
  exact ⟨⟨x0, x1, x2, x3, x4⟩, r4, by unfold infB; simp only [List.append_assoc], ⟨u0, u1, u2, u3, u4⟩, b4⟩
theorem blk_exists {L : List Int} (hb : Byt L) (h : 24 ≤ L.length) : ∃ b r, L = blkB b ++ r ∧ BlkOK b ∧ missOK b = true ∧ Byt r := by
  obtain ⟨x0, r0, rfl, u0, b0⟩ := u32_exists hb (by omega)
  rw [List.length_append, bysA_len2 _ _ (by decide)] at h
  obtain ⟨x1, r1, rfl, l1, g1, b1⟩ := num_exists 1 (by decide) b0 (by simp at h; omega)
  rw [List.length_append, bysA_len2 _ _ (by decide)] at h
  obtain ⟨x2, r2, rfl, l2, g2, b2⟩ := num_exists 3 (by decide) b1 (by simp at h; omega)
  rw [List.length_append, bysA_len2 _ _ (by decide)] at h
  obtain ⟨x3, r3, rfl, u3, b3⟩ := u32_exists b2 (by simp at h; omega)
  rw [List.length_append, bysA_len2 _ _ (by decide)] at h
  obtain ⟨x4, r4, rfl, u4, b4⟩ := u32_exists b3 (by simp at h; omega)
  rw [List.length_append, bysA_len2 _ _ (by decide)] at h
  obtain ⟨x5, r5, rfl, u5, b5⟩ := u32_exists b4 (by simp at h; omega)
  rw [List.length_append, bysA_len2 _ _ (by decide)] at h
  obtain ⟨x6, r6, rfl, u6, b6⟩ := u32_exists b5 (by simp at h; omega)
  have g1 : x1 < 256 := g1
  have g2 : x2 < 16777216 := g2
  have hs := sgd_bd x2 24 (by decide) (by decide)
  have hm := sgd_mod x2 24 (by decide) (by decide)
  have e1 : two 24 = 16777216 := by decide
  have e2 : two (24 - 1) = 8388608 := by decide
  rw [e2] at hs
  rw [e1] at hm
  have h3 : bysA (sgd x2 24 % 4294967296) 3 = bysA x2 3 := by
    rw [← bysA_mod3, ← bysA_mod3 x2]
    congr 1
    omega
  refine ⟨⟨x0, x1, sgd x2 24, x3, x4, x5, x6⟩, r6, ?_, ⟨u0, ⟨l1, by simp only; omega⟩, ⟨by simp only; omega, by simp only; omega⟩, u3, u4, u5, u6⟩, ?_, b6⟩
  · unfold blkB
    simp only [List.append_assoc, h3]
    rfl
  · unfold missOK
    simp only [decide_eq_true_eq]
    omega
theorem bls_exists : ∀ (n : Nat) {L : List Int}, Byt L → 24 * n ≤ L.length → ∃ l r, l.length = n ∧ L = flR l ++ r ∧ (∀ b ∈ l, BlkOK b ∧ missOK b = true) ∧ Byt r
  | 0, L, hb, _ => ⟨[], L, rfl, rfl, (fun b h => by cases h), hb⟩
  | n + 1, L, hb, h => by
    obtain ⟨b, r, rfl, k1, k2, hr⟩ := blk_exists hb (by omega)
    rw [List.length_append, blkB_len] at h
    obtain ⟨l, r', h1, rfl, h3, h4⟩ := bls_exists n hr (by omega)
    refine ⟨b :: l, r', by rw [List.length_cons, h1], by rw [flR_cons, List.append_assoc], fun c hc => ?_, h4⟩
    simp at hc
    rcases hc with rfl | hc
    · exact ⟨k1, k2⟩
    · exact h3 c hc
theorem inf0_ok : InfOK inf0 := ⟨by decide, by decide, by decide, by decide, by decide⟩
/-- A chunk that is read is some report's. -/
theorem report_exists {c : Chunk} (hk : ChunkOK c) (h : (readR c).2 = 0) : ∃ r, RepOK r ∧ rightR r = true ∧ writeR r = (c, 0) := by
  have hr : rightB c = true := by
    cases x : rightB c with
    | true => rfl
    | false => unfold readR at h; rw [if_pos x] at h; cases h
  have ht : c.2.1 = 200 ∨ c.2.1 = 201 := by
    by_cases h1 : c.2.1 = 200
    · exact Or.inl h1
    · by_cases h2 : c.2.1 = 201
      · exact Or.inr h2
      · unfold readR at h
        rw [if_neg (by rw [hr]; simp), if_neg h1, if_neg h2] at h
        cases h
  have he := readR_end c hr ht
  rw [h] at he
  have hlen : c.2.2.1.length = needR c := by
    by_cases h1 : c.2.2.1.length < needR c
    · rw [if_pos h1] at he; cases he
    · by_cases h2 : needR c < c.2.2.1.length
      · rw [if_neg h1, if_pos h2] at he; cases he
      · omega
  obtain ⟨r1, r2, r3⟩ := (rightB_iff c).1 hr
  obtain ⟨k, t, B, ⟨⟩⟩ := c
  obtain ⟨⟨k0, k1⟩, _, hb⟩ := hk
  simp only at hlen r1 r2 r3 k0 k1 hb ht
  unfold needR at hlen
  simp only at hlen
  obtain ⟨src, q0, rfl, u0, b0⟩ := u32_exists hb (by omega)
  rw [List.length_append, bysA_len2 _ _ (by decide)] at hlen r3
  have e4 : (4 : Int).toNat = 4 := rfl
  rw [e4] at hlen r3
  rcases ht with rfl | rfl
  · rw [if_pos rfl] at hlen
    obtain ⟨i, q1, rfl, ui, b1⟩ := inf_exists b0 (by omega)
    rw [List.length_append, infB_len] at hlen r3
    obtain ⟨l, q2, l1, rfl, l3, _⟩ := bls_exists k.toNat b1 (by omega)
    rw [List.length_append, flR_len] at hlen r3
    have hq : q2 = [] := List.eq_nil_of_length_eq_zero (by omega)
    subst hq
    have hR : rightR ⟨true, src, i, l⟩ = true := (rightR_iff _).2 ⟨(fun h => by cases h), fun b hb => (l3 b hb).2, by simp; omega⟩
    refine ⟨⟨true, src, i, l⟩, ⟨u0, ui, fun b hb => (l3 b hb).1⟩, hR, ?_⟩
    rw [writeR_yes hR]
    have ek : ((l.length : Int)) = k := by omega
    simp only [ek, if_true]
    congr 4
    unfold repB headB
    simp
  · rw [if_neg (by decide)] at hlen
    obtain ⟨l, q2, l1, rfl, l3, _⟩ := bls_exists k.toNat b0 (by omega)
    rw [List.length_append, flR_len] at hlen r3
    have hq : q2 = [] := List.eq_nil_of_length_eq_zero (by omega)
    subst hq
    have hR : rightR ⟨false, src, inf0, l⟩ = true := (rightR_iff _).2 ⟨fun h => rfl, fun b hb => (l3 b hb).2, by simp; omega⟩
    refine ⟨⟨false, src, inf0, l⟩, ⟨u0, inf0_ok, fun b hb => (l3 b hb).1⟩, hR, ?_⟩
    rw [writeR_yes hR]
    have ek : ((l.length : Int)) = k := by omega
    simp only [ek]
    unfold repB headB
    simp
theorem writeR_readR {c : Chunk} {r : Rep} (hk : ChunkOK c) (h : readR c = (r, 0)) : writeR r = (c, 0) ∧ RepOK r ∧ rightR r = true := by
  obtain ⟨r', h1, h2, h3⟩ := report_exists hk (by rw [h])
  have h4 := readR_writeR h1 h2
  rw [h3, h] at h4
  obtain rfl : r = r' := by injection h4
  exact ⟨h3, h1, h2⟩
theorem writeR_inj {r s : Rep} (hr : RepOK r) (hs : RepOK s) (h1 : rightR r = true) (h2 : rightR s = true) : (writeR r).1 = (writeR s).1 ↔ r = s := by
  constructor
  · intro h
    have a := readR_writeR hr h1
    have b := readR_writeR hs h2
    rw [h, b] at a
    injection a with a
    exact a.symm
  · rintro rfl; rfl
end Go.Proofs.Ytlnikmcimmnbmaa
