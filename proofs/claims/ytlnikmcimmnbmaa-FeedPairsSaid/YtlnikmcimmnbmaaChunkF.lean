/- Chunks: the plain law: there and back. -/
import Derived.Test.YtlnikmcimmnbmaaChunkE
namespace Go.Proofs.Ytlnikmcimmnbmaa
set_option linter.unusedSimpArgs false
set_option linter.unusedVariables false
open Go.RowKit
set_option maxRecDepth 100000

theorem readC_chB (c : Chunk) (r : List Int) (hr : rightB c = true) (hk : ChunkOK c) : readC (chB c ++ r, 0) = (c, (r, 0)) := by
  obtain ⟨k, t, B, ⟨⟩⟩ := c
  obtain ⟨h1, h2, h3⟩ := (rightB_iff _).1 hr
  obtain ⟨⟨k0, k1⟩, ⟨t0, t1⟩, hb⟩ := hk
  simp only at h1 h2 h3 k0 k1 t0 t1 hb
  have e : chB (k, t, B, ()) ++ r = bysA (128 + k) 1 ++ (bysA t 1 ++ (bysA ((B.length : Int) / 4) 2 ++ (B ++ r))) := by unfold chB; simp only [List.append_assoc]
  have l1 : ((bysA (128 + k) 1).length : Int) = 1 := by rw [bysA_len2 _ _ (by decide)]; rfl
  have l2 : ((bysA t 1).length : Int) = 1 := by rw [bysA_len2 _ _ (by decide)]; rfl
  have l3 : ((bysA ((B.length : Int) / 4) 2).length : Int) = 2 := by rw [bysA_len2 _ _ (by decide)]; rfl
  have n1 : num (bysA (128 + k) 1) = 128 + k := num_bysA _ 1 (by omega) (by decide) (by show 128 + k < 256; omega)
  have n2 : num (bysA t 1) = t := num_bysA _ 1 (by omega) (by decide) (by show t < 256; omega)
  have n3 : num (bysA ((B.length : Int) / 4) 2) = (B.length : Int) / 4 := num_bysA _ 2 (by omega) (by decide) (by show _ < 65536; omega)
  have a1 := tkB_app (bysA (128 + k) 1) (bysA t 1 ++ (bysA ((B.length : Int) / 4) 2 ++ (B ++ r)))
  have b1 := tkL_app (bysA (128 + k) 1) (bysA t 1 ++ (bysA ((B.length : Int) / 4) 2 ++ (B ++ r)))
  have c1 := tkE_app (bysA (128 + k) 1) (bysA t 1 ++ (bysA ((B.length : Int) / 4) 2 ++ (B ++ r))) 0
  have a2 := tkB_app (bysA t 1) (bysA ((B.length : Int) / 4) 2 ++ (B ++ r))
  have b2 := tkL_app (bysA t 1) (bysA ((B.length : Int) / 4) 2 ++ (B ++ r))
  have c2 := tkE_app (bysA t 1) (bysA ((B.length : Int) / 4) 2 ++ (B ++ r)) 0
  have a3 := tkB_app (bysA ((B.length : Int) / 4) 2) (B ++ r)
  have b3 := tkL_app (bysA ((B.length : Int) / 4) 2) (B ++ r)
  have c3 := tkE_app (bysA ((B.length : Int) / 4) 2) (B ++ r) 0
  have a4 := tkB_app B r
  have b4 := tkL_app B r
  have c4 := tkE_app B r 0
  rw [l1] at a1 b1 c1
  rw [l2] at a2 b2 c2
  rw [l3] at a3 b3 c3
  have e4 : 4 * ((B.length : Int) / 4) = (B.length : Int) := by omega
  have hh : headC (chB (k, t, B, ()) ++ r, 0) = ((128 + k, t, (B.length : Int) / 4), (B ++ r, 0)) := by
    rw [e]
    unfold headC tkS
    simp only [a1, b1, c1, a2, b2, c2, a3, b3, c3, n1, n2, n3]
  unfold readC
  rw [hh]
  simp only
  have hf : formC (128 + k) (B ++ r, 0) = (B ++ r, 0) := by unfold formC; rw [if_neg (by omega)]
  rw [hf]
  unfold bodyC
  rw [if_pos (by omega), e4]
  unfold tkS
  simp only [a4, b4, c4]
  have : (128 + k) % 32 = k := by omega
  rw [this]
theorem tkE_zero {l : List Int} {n e : Int} (h : tkE l n e = 0) : e = 0 ∧ n ≤ l.length := by
  unfold tkE at h
  split at h
  · cases h
  · rename_i x
    refine ⟨h, ?_⟩
    rcases Int.lt_or_le (l.length : Int) n with y | y
    · exact absurd ⟨y, h⟩ x
    · exact y
theorem wrS_ne (s : RdS) : ¬ (wrS s 2).2 = 0 := by
  unfold wrS
  split
  · rename_i h
    rcases h with h | h
    · cases h
    · exact h
  · decide
theorem unpadC_ok {b : List Int} (hb : Byt b) (h : (unpadC b).2 = true) : (unpadC b).1.length < b.length ∧ (b.length % 4 = 0 → (unpadC b).1.length % 4 = 0) := by
  unfold unpadC at h ⊢
  split at h
  · cases h
  · rename_i hn
    rw [if_neg hn]
    simp only at h ⊢
    have hbd := hb (b.length - 1)
    generalize b.getD (b.length - 1) 0 = n at *
    split at h
    · cases h
    · rename_i x
      rw [if_neg x]
      have hl := List.length_pos_iff.2 hn
      simp only [List.length_take]
      omega
/-- What is read, where nothing went wrong. -/
theorem readC_back (L : List Int) (E : Int) (hb : Byt L) (h : (readC (L, E)).2.2 = 0) :
    E = 0 ∧ (readC (L, E)).1.1 ≤ 31 ∧ (readC (L, E)).1.2.2.1.length % 4 = 0 ∧ (chB (readC (L, E)).1).length + (readC (L, E)).2.1.length ≤ L.length ∧ ((chB (readC (L, E)).1).length + (readC (L, E)).2.1.length = L.length → chB (readC (L, E)).1 ++ (readC (L, E)).2.1 = L) := by
  have hB2 : Byt (tkL L 1) := hb.drop _
  have hB3 : Byt (tkL (tkL L 1) 1) := hB2.drop _
  have hB4 : Byt (tkL (tkL (tkL L 1) 1) 2) := hB3.drop _
  have hh : headC (L, E) = ((num (tkB L 1), num (tkB (tkL L 1) 1), num (tkB (tkL (tkL L 1) 1) 2)), (tkL (tkL (tkL L 1) 1) 2, tkE (tkL (tkL L 1) 1) 2 (tkE (tkL L 1) 1 (tkE L 1 E)))) := rfl
  have hd : readC (L, E) = bodyC (headC (L, E)).1.1 (headC (L, E)).1.2.1 (headC (L, E)).1.2.2 (formC (headC (L, E)).1.1 (headC (L, E)).2) := rfl
  rw [hd] at h ⊢
  rw [hh] at h ⊢
  simp only at h ⊢
  generalize hL3 : tkL (tkL (tkL L 1) 1) 2 = L3 at *
  generalize hE3 : tkE (tkL (tkL L 1) 1) 2 (tkE (tkL L 1) 1 (tkE L 1 E)) = E3 at *
  generalize hf : num (tkB L 1) = f at *
  generalize ht : num (tkB (tkL L 1) 1) = t at *
  generalize hn : num (tkB (tkL (tkL L 1) 1) 2) = n at *
  -- the form is right
  have hform : formC f (L3, E3) = (L3, E3) ∧ 128 ≤ f ∧ f ≤ 191 := by
    by_cases x : f < 128 ∨ 191 < f
    · exfalso
      have e : formC f (L3, E3) = wrS (L3, E3) 2 := by unfold formC; rw [if_pos x]
      rw [e] at h
      have hw := wrS_ne (L3, E3)
      generalize wrS (L3, E3) 2 = s at *
      unfold bodyC at h
      split at h
      · exact hw (tkE_zero h).1
      · simp only at h
        split at h
        · exact wrS_ne _ h
        · exact hw (tkE_zero h).1
    · exact ⟨by unfold formC; rw [if_neg x], by omega, by omega⟩
  obtain ⟨e1, hf1, hf2⟩ := hform
  rw [e1] at h ⊢
  -- nothing went wrong
  have hz : tkE L3 (4 * n) E3 = 0 := by
    unfold bodyC at h
    split at h
    · exact h
    · simp only at h
      split at h
      · exact absurd h (wrS_ne _)
      · exact h
  obtain ⟨hz3, hn3⟩ := tkE_zero hz
  rw [← hE3] at hz3
  obtain ⟨hz2, hn2⟩ := tkE_zero hz3
  obtain ⟨hz1, hn1⟩ := tkE_zero hz2
  obtain ⟨hz0, hn0⟩ := tkE_zero hz1
  subst hz0
  obtain ⟨j1, q1⟩ := tk_join (by decide) hn0
  obtain ⟨j2, q2⟩ := tk_join (by decide) hn1
  obtain ⟨j3, q3⟩ := tk_join (by decide) hn2
  have hnn := num_lt _ 2 (tkB_byt hB3 2) (by rw [q3]; decide) (by decide)
  rw [hn] at hnn
  obtain ⟨j4, q4⟩ := tk_join (l := L3) (n := 4 * n) (by omega) hn3
  have w1 := bysA_num (tkB_byt hb 1) 1 q1 (by decide)
  have w2 := bysA_num (tkB_byt hB2 1) 1 q2 (by decide)
  have w3 := bysA_num (tkB_byt hB3 2) 2 q3 (by decide)
  rw [hf] at w1
  rw [ht] at w2
  rw [hn] at w3
  rw [hL3] at j3
  have hL : L = bysA f 1 ++ (bysA t 1 ++ (bysA n 2 ++ (tkB L3 (4 * n) ++ tkL L3 (4 * n)))) := by
    conv => lhs; rw [j1, j2, j3, j4]
    rw [show bysA f 1 = tkB L 1 from w1, show bysA t 1 = tkB (tkL L 1) 1 from w2, show bysA n 2 = tkB (tkL (tkL L 1) 1) 2 from w3]
  have hlen : L.length = 4 + (tkB L3 (4 * n)).length + (tkL L3 (4 * n)).length := by
    conv => lhs; rw [hL]
    simp only [List.length_append, bysA_len2 _ _ (show (0 : Int) ≤ 1 ∧ (1 : Int) ≤ 8 by decide), bysA_len2 _ _ (show (0 : Int) ≤ 2 ∧ (2 : Int) ≤ 8 by decide)]
    simp
    omega
  refine ⟨rfl, ?_⟩
  unfold bodyC at h ⊢
  by_cases hp : f % 64 < 32
  · rw [if_pos hp]
    have e5 : tkS (L3, E3) (4 * n) = (tkL L3 (4 * n), tkE L3 (4 * n) E3) := rfl
    rw [e5]
    simp only
    have hc : chB (f % 32, t, tkB L3 (4 * n), ()) = bysA f 1 ++ (bysA t 1 ++ (bysA n 2 ++ tkB L3 (4 * n))) := by
      unfold chB
      simp only
      rw [show 128 + f % 32 = f by omega, q4, show 4 * n / 4 = n by omega]
    have hcl := chB_len (f % 32, t, tkB L3 (4 * n), ())
    simp only at hcl
    refine ⟨by omega, by omega, by omega, fun _ => ?_⟩
    rw [hc]
    conv => rhs; rw [hL]
    simp only [List.append_assoc]
  · rw [if_neg hp] at h ⊢
    simp only at h ⊢
    have e5 : tkS (L3, E3) (4 * n) = (tkL L3 (4 * n), tkE L3 (4 * n) E3) := rfl
    rw [e5] at h ⊢
    by_cases hc : (unpadC (tkB L3 (4 * n))).2 = false ∨ ¬ (tkL L3 (4 * n), tkE L3 (4 * n) E3).1 = []
    · rw [if_pos hc] at h
      exact absurd h (wrS_ne _)
    · rw [if_neg hc]
      have hu : (unpadC (tkB L3 (4 * n))).2 = true := by
        cases x : (unpadC (tkB L3 (4 * n))).2 with
        | true => rfl
        | false => exact absurd (Or.inl x) hc
      obtain ⟨u1, u2⟩ := unpadC_ok (tkB_byt hB4 (4 * n)) hu
      have hcl := chB_len (f % 32, t, (unpadC (tkB L3 (4 * n))).1, ())
      simp only at hcl ⊢
      refine ⟨by omega, u2 (by omega), by omega, fun x => by omega⟩
theorem tkS_byt {s : RdS} (h : Byt s.1) (n : Int) : Byt (tkS s n).1 := h.drop _
theorem wrS_byt {s : RdS} (h : Byt s.1) (x : Int) : Byt (wrS s x).1 := by
  unfold wrS; split
  · exact h
  · exact byt_nil
theorem readC_byt {s : RdS} (h : Byt s.1) : Byt (readC s).2.1 := by
  have h1 : Byt (headC s).2.1 := tkS_byt (tkS_byt (tkS_byt h 1) 1) 2
  have h2 : Byt (formC (headC s).1.1 (headC s).2).1 := by
    unfold formC; split
    · exact wrS_byt h1 2
    · exact h1
  show Byt (bodyC _ _ _ _).2.1
  unfold bodyC
  split
  · exact tkS_byt h2 _
  · simp only
    split
    · exact wrS_byt (tkS_byt h2 _) 2
    · exact tkS_byt h2 _
theorem flC_cons (c : Chunk) (l : List Chunk) : flC (c :: l) = chB c ++ flC l := rfl
theorem splitF_flC : ∀ (l : List Chunk) (acc : List Chunk) (n : Nat), l ≠ [] → (∀ c ∈ l, rightB c = true ∧ ChunkOK c) → (flC l).length < n → splitF n acc (flC l, 0) = (acc ++ l, ([], 0))
  | [], _, _, h, _, _ => absurd rfl h
  | _, _, 0, _, _, h => by omega
  | c :: l, acc, n + 1, _, hc, hn => by
    have h1 := hc c (by simp)
    rw [flC_cons] at hn ⊢
    have hr := readC_chB c (flC l) h1.1 h1.2
    have hl := chB_len c
    rw [splitF, hr]
    simp only
    by_cases e : l = []
    · subst e
      rw [if_pos (show flC [] = [] from rfl)]
      rfl
    · have hne : ¬ flC l = [] := by
        obtain ⟨d, l', rfl⟩ := List.exists_cons_of_ne_nil e
        rw [flC_cons]
        intro x
        have := congrArg List.length x
        rw [List.length_append, chB_len] at this
        simp at this
      rw [if_neg hne, splitF_flC l _ n e (fun d hd => hc d (by simp [hd])) (by rw [List.length_append] at hn; omega)]
      simp
theorem splitF_back : ∀ (n : Nat) (acc : List Chunk) (L : List Int) (E : Int), Byt L → L.length < n → (splitF n acc (L, E)).2.2 = 0 →
    ∃ k, (splitF n acc (L, E)).1 = acc ++ k ∧ E = 0 ∧ (∀ c ∈ k, c.1 ≤ 31 ∧ c.2.2.1.length % 4 = 0) ∧ (flC k).length ≤ L.length ∧ ((flC k).length = L.length → flC k = L)
  | 0, _, _, _, _, h, _ => by omega
  | n + 1, acc, L, E, hb, hn, h => by
    have hlen := readC_len (L, E)
    rw [splitF] at h ⊢
    by_cases e : (readC (L, E)).2.1 = []
    · rw [if_pos e] at h ⊢
      obtain ⟨h0, h1, h2, h3, h4⟩ := readC_back L E hb h
      rw [e] at h3 h4
      refine ⟨[(readC (L, E)).1], rfl, h0, fun c hc => ?_, ?_, ?_⟩
      · simp at hc; subst hc; exact ⟨h1, h2⟩
      · rw [flC_cons]; simpa [flC] using h3
      · rw [flC_cons]; simpa [flC] using h4
    · rw [if_neg e] at h ⊢
      have hl2 := List.length_pos_iff.2 e
      have hb2 : Byt (readC (L, E)).2.1 := readC_byt hb
      obtain ⟨k, k1, k2, k3, k4, k5⟩ := splitF_back n (acc ++ [(readC (L, E)).1]) (readC (L, E)).2.1 (readC (L, E)).2.2 hb2 (by simp only at hlen; omega) h
      obtain ⟨h0, h1, h2, h3, h4⟩ := readC_back L E hb k2
      refine ⟨(readC (L, E)).1 :: k, by rw [k1]; simp, h0, fun c hc => ?_, ?_, fun x => ?_⟩
      · simp at hc
        rcases hc with rfl | hc
        · exact ⟨h1, h2⟩
        · exact k3 c hc
      · rw [flC_cons, List.length_append]; omega
      · rw [flC_cons, List.length_append] at x
        rw [flC_cons, k5 (by omega)]
        exact h4 (by omega)
theorem le_sum : ∀ (l : List Nat) (x : Nat), x ∈ l → x ≤ l.sum
  | y :: l, x, h => by
    simp at h
    rcases h with rfl | h
    · simp
    · have := le_sum l x h
      simp; omega
/-- Bytes that are not padded come back. -/
theorem splitC_back {b : List Int} {k : List Chunk} (hb : Byt b) (h : splitC b = (k, 0)) : joinC k = (flC k, 0) ∧ (flC k).length ≤ b.length ∧ ((flC k).length = b.length → flC k = b) ∧ szC k ≤ 200 := by
  unfold splitC at h
  split at h
  · cases h
  · rename_i h200
    split at h
    · rename_i hz
      obtain ⟨k', k1, _, k3, k4, k5⟩ := splitF_back (b.length + 1) [] b 0 hb (by omega) hz
      rw [k1] at h
      obtain rfl : k' = k := by injection h
      have hs : szC k' ≤ 200 := by rw [← flC_len]; omega
      refine ⟨?_, k4, k5, hs⟩
      have hall : k'.all rightB = true := by
        rw [List.all_eq_true]
        intro c hc
        have hle : 4 + c.2.2.1.length ≤ szC k' := by
          unfold szC
          exact le_sum _ _ (List.mem_map.2 ⟨c, hc, rfl⟩)
        rw [rightB_iff]
        exact ⟨(k3 c hc).1, (k3 c hc).2, by omega⟩
      unfold joinC
      rw [if_neg (by rw [hall]; simp), if_neg (by omega)]
    · rename_i x
      exact absurd (congrArg Prod.snd h) x
theorem joinC_ok {l : List Chunk} {x : List Int} (h : joinC l = (x, 0)) : x = flC l ∧ (∀ c ∈ l, rightB c = true) ∧ szC l ≤ 200 := by
  unfold joinC at h
  split at h
  · cases h
  · rename_i h1
    split at h
    · cases h
    · rename_i h2
      have hx : flC l = x := by injection h
      refine ⟨hx.symm, ?_, by omega⟩
      have : l.all rightB = true := by
        cases y : l.all rightB with
        | true => rfl
        | false => exact absurd y h1
      exact List.all_eq_true.1 this
theorem flC_nil_iff (l : List Chunk) : flC l = [] ↔ l = [] := by
  constructor
  · intro h
    cases l with
    | nil => rfl
    | cons c l =>
      have := congrArg List.length h
      rw [flC_cons, List.length_append, chB_len] at this
      simp at this
  · rintro rfl; rfl
/-- Chunks come back. -/
theorem joinC_back {l : List Chunk} {x : List Int} (hk : ∀ c ∈ l, ChunkOK c) (h : joinC l = (x, 0)) (hne : l ≠ []) : splitC x = (l, 0) := by
  obtain ⟨rfl, hr, hs⟩ := joinC_ok h
  unfold splitC
  rw [if_neg (by rw [flC_len]; omega), splitF_flC l [] _ hne (fun c hc => ⟨hr c hc, hk c hc⟩) (by omega)]
  simp
theorem joinC_inj {l m : List Chunk} {x y : List Int} (hl : ∀ c ∈ l, ChunkOK c) (hm : ∀ c ∈ m, ChunkOK c) (h : joinC l = (x, 0)) (h' : joinC m = (y, 0)) : x = y ↔ l = m := by
  constructor
  · rintro rfl
    have e1 := (joinC_ok h).1
    have e2 := (joinC_ok h').1
    by_cases hn : l = []
    · subst hn
      have : flC m = [] := by rw [← e2, e1]; rfl
      exact ((flC_nil_iff m).1 this).symm
    · have hn2 : m ≠ [] := by
        rintro rfl
        exact hn ((flC_nil_iff l).1 (by rw [← e1, e2]; rfl))
      have h1 := joinC_back hl h hn
      have h2 := joinC_back hm h' hn2
      rw [h1] at h2
      injection h2
  · rintro rfl
    rw [h] at h'
    injection h'
theorem joinC_err {l : List Chunk} (h : ¬ (joinC l).2 = 0) : (joinC l).1 = [] := by
  unfold joinC at h ⊢
  split
  · rfl
  · rename_i h1
    rw [if_neg h1] at h
    split
    · rfl
    · rename_i h2
      rw [if_neg h2] at h
      exact absurd rfl h
theorem splitC_nil : splitC [] = ([], 3) := by decide
theorem joinC_nil : joinC [] = ([], 0) := by decide
end Go.Proofs.Ytlnikmcimmnbmaa
