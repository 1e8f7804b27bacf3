/- Merged from my texts ChunkF, ChunkG, ReportA. -/
import Derived.Test.YtlnikmcimmnbmaaMg10
/- Chunks: the plain law: there and back. -/
namespace Go.Proofs.Ytlnikmcimmnbmaa
set_option linter.unusedSimpArgs false
set_option linter.unusedVariables false
open Go.RowKit
set_option maxRecDepth 100000

theorem readC_chB (c : Chunk) (r : List Int) (hr : rightB c = true) (hk : ChunkOK c) : readC (chB c ++ r, 0) = (c, (r, 0)) := by
  obtain ⟨k, t, B, ⟨⟩⟩ := c
  obtain ⟨h1, h2, h3⟩ := (rightB_iff _).1 hr
  obtain ⟨⟨k0, k1⟩, ⟨t0, t1⟩, hb⟩ := hk
  simp only at h1 h2 h3 k0 k1 t0 t1 hb
  have e : chB (k, t, B, ()) ++ r = bysA (128 + k) 1 ++ (bysA t 1 ++ (bysA ((B.length : Int) / 4) 2 ++ (B ++ r))) := by unfold chB; simp only [List.append_assoc]
  have l1 : ((bysA (128 + k) 1).length : Int) = 1 := by rw [bysA_len2 _ _ (by decide)]; rfl
  have l2 : ((bysA t 1).length : Int) = 1 := by rw [bysA_len2 _ _ (by decide)]; rfl
  have l3 : ((bysA ((B.length : Int) / 4) 2).length : Int) = 2 := by rw [bysA_len2 _ _ (by decide)]; rfl
  have n1 : num (bysA (128 + k) 1) = 128 + k := num_bysA _ 1 (by omega) (by decide) (by show 128 + k < 256; omega)
  have n2 : num (bysA t 1) = t := num_bysA _ 1 (by omega) (by decide) (by show t < 256; omega)
  have n3 : num (bysA ((B.length : Int) / 4) 2) = (B.length : Int) / 4 := num_bysA _ 2 (by omega) (by decide) (by show _ < 65536; omega)
  have a1 := tkB_app (bysA (128 + k) 1) (bysA t 1 ++ (bysA ((B.length : Int) / 4) 2 ++ (B ++ r)))
  have b1 := tkL_app (bysA (128 + k) 1) (bysA t 1 ++ (bysA ((B.length : Int) / 4) 2 ++ (B ++ r)))
  have c1 := tkE_app (bysA (128 + k) 1) (bysA t 1 ++ (bysA ((B.length : Int) / 4) 2 ++ (B ++ r))) 0
  have a2 := tkB_app (bysA t 1) (bysA ((B.length : Int) / 4) 2 ++ (B ++ r))
  have b2 := tkL_app (bysA t 1) (bysA ((B.length : Int) / 4) 2 ++ (B ++ r))
  have c2 := tkE_app (bysA t 1) (bysA ((B.length : Int) / 4) 2 ++ (B ++ r)) 0
  have a3 := tkB_app (bysA ((B.length : Int) / 4) 2) (B ++ r)
  have b3 := tkL_app (bysA ((B.length : Int) / 4) 2) (B ++ r)
  have c3 := tkE_app (bysA ((B.length : Int) / 4) 2) (B ++ r) 0
  have a4 := tkB_app B r
  have b4 := tkL_app B r
  have c4 := tkE_app B r 0
  rw [l1] at a1 b1 c1
  rw [l2] at a2 b2 c2
  rw [l3] at a3 b3 c3
  have e4 : 4 * ((B.length : Int) / 4) = (B.length : Int) := by omega
  have hh : headC (chB (k, t, B, ()) ++ r, 0) = ((128 + k, t, (B.length : Int) / 4), (B ++ r, 0)) := by
    rw [e]
    unfold headC tkS
    simp only [a1, b1, c1, a2, b2, c2, a3, b3, c3, n1, n2, n3]
  unfold readC
  rw [hh]
  simp only
  have hf : formC (128 + k) (B ++ r, 0) = (B ++ r, 0) := by unfold formC; rw [if_neg (by omega)]
  rw [hf]
  unfold bodyC
  rw [if_pos (by omega), e4]
  unfold tkS
  simp only [a4, b4, c4]
  have : (128 + k) % 32 = k := by omega
  rw [this]
theorem tkE_zero {l : List Int} {n e : Int} (h : tkE l n e = 0) : e = 0 ∧ n ≤ l.length := by
  unfold tkE at h
  split at h
  · cases h
  · rename_i x
    refine ⟨h, ?_⟩
    rcases Int.lt_or_le (l.length : Int) n with y | y
    · exact absurd ⟨y, h⟩ x
    · exact y
theorem wrS_ne (s : RdS) : ¬ (wrS s 2).2 = 0 := by
  unfold wrS
  split
  · rename_i h
    rcases h with h | h
    · cases h
    · exact h
  · decide
theorem unpadC_ok {b : List Int} (hb : Byt b) (h : (unpadC b).2 = true) : (unpadC b).1.length < b.length ∧ (b.length % 4 = 0 → (unpadC b).1.length % 4 = 0) := by
  unfold unpadC at h ⊢
  split at h
  · cases h
  · rename_i hn
    rw [if_neg hn]
    simp only at h ⊢
    have hbd := hb (b.length - 1)
    generalize b.getD (b.length - 1) 0 = n at *
    split at h
    · cases h
    · rename_i x
      rw [if_neg x]
      have hl := List.length_pos_iff.2 hn
      simp only [List.length_take]
      omega
/-- What is read, where nothing went wrong. -/
theorem readC_back (L : List Int) (E : Int) (hb : Byt L) (h : (readC (L, E)).2.2 = 0) :
    E = 0 ∧ (readC (L, E)).1.1 ≤ 31 ∧ (readC (L, E)).1.2.2.1.length % 4 = 0 ∧ (chB (readC (L, E)).1).length + (readC (L, E)).2.1.length ≤ L.length ∧ ((chB (readC (L, E)).1).length + (readC (L, E)).2.1.length = L.length → chB (readC (L, E)).1 ++ (readC (L, E)).2.1 = L) := by
  have hB2 : Byt (tkL L 1) := hb.drop _
  have hB3 : Byt (tkL (tkL L 1) 1) := hB2.drop _
  have hB4 : Byt (tkL (tkL (tkL L 1) 1) 2) := hB3.drop _
  have hh : headC (L, E) = ((num (tkB L 1), num (tkB (tkL L 1) 1), num (tkB (tkL (tkL L 1) 1) 2)), (tkL (tkL (tkL L 1) 1) 2, tkE (tkL (tkL L 1) 1) 2 (tkE (tkL L 1) 1 (tkE L 1 E)))) := rfl
  have hd : readC (L, E) = bodyC (headC (L, E)).1.1 (headC (L, E)).1.2.1 (headC (L, E)).1.2.2 (formC (headC (L, E)).1.1 (headC (L, E)).2) := rfl
  rw [hd] at h ⊢
  rw [hh] at h ⊢
  simp only at h ⊢
  generalize hL3 : tkL (tkL (tkL L 1) 1) 2 = L3 at *
  generalize hE3 : tkE (tkL (tkL L 1) 1) 2 (tkE (tkL L 1) 1 (tkE L 1 E)) = E3 at *
  generalize hf : num (tkB L 1) = f at *
  generalize ht : num (tkB (tkL L 1) 1) = t at *
  generalize hn : num (tkB (tkL (tkL L 1) 1) 2) = n at *
  -- the form is right
  have hform : formC f (L3, E3) = (L3, E3) ∧ 128 ≤ f ∧ f ≤ 191 := by
    by_cases x : f < 128 ∨ 191 < f
    · exfalso
      have e : formC f (L3, E3) = wrS (L3, E3) 2 := by unfold formC; rw [if_pos x]
      rw [e] at h
      have hw := wrS_ne (L3, E3)
      generalize wrS (L3, E3) 2 = s at *
      unfold bodyC at h
      split at h
      · exact hw (tkE_zero h).1
      · simp only at h
        split at h
        · exact wrS_ne _ h
        · exact hw (tkE_zero h).1
    · exact ⟨by unfold formC; rw [if_neg x], by omega, by omega⟩
  obtain ⟨e1, hf1, hf2⟩ := hform
  rw [e1] at h ⊢
  -- nothing went wrong
  have hz : tkE L3 (4 * n) E3 = 0 := by
    unfold bodyC at h
    split at h
    · exact h
    · simp only at h
      split at h
      · exact absurd h (wrS_ne _)
      · exact h
  obtain ⟨hz3, hn3⟩ := tkE_zero hz
  rw [← hE3] at hz3
  obtain ⟨hz2, hn2⟩ := tkE_zero hz3
  obtain ⟨hz1, hn1⟩ := tkE_zero hz2
  obtain ⟨hz0, hn0⟩ := tkE_zero hz1
  subst hz0
  obtain ⟨j1, q1⟩ := tk_join (by decide) hn0
  obtain ⟨j2, q2⟩ := tk_join (by decide) hn1
  obtain ⟨j3, q3⟩ := tk_join (by decide) hn2
  have hnn := num_lt _ 2 (tkB_byt hB3 2) (by rw [q3]; decide) (by decide)
  rw [hn] at hnn
  obtain ⟨j4, q4⟩ := tk_join (l := L3) (n := 4 * n) (by omega) hn3
  have w1 := bysA_num (tkB_byt hb 1) 1 q1 (by decide)
  have w2 := bysA_num (tkB_byt hB2 1) 1 q2 (by decide)
  have w3 := bysA_num (tkB_byt hB3 2) 2 q3 (by decide)
  rw [hf] at w1
  rw [ht] at w2
  rw [hn] at w3
  rw [hL3] at j3
  have hL : L = bysA f 1 ++ (bysA t 1 ++ (bysA n 2 ++ (tkB L3 (4 * n) ++ tkL L3 (4 * n)))) := by
    conv => lhs; rw [j1, j2, j3, j4]
    rw [show bysA f 1 = tkB L 1 from w1, show bysA t 1 = tkB (tkL L 1) 1 from w2, show bysA n 2 = tkB (tkL (tkL L 1) 1) 2 from w3]
  have hlen : L.length = 4 + (tkB L3 (4 * n)).length + (tkL L3 (4 * n)).length := by
    conv => lhs; rw [hL]
    simp only [List.length_append, bysA_len2 _ _ (show (0 : Int) ≤ 1 ∧ (1 : Int) ≤ 8 by decide), bysA_len2 _ _ (show (0 : Int) ≤ 2 ∧ (2 : Int) ≤ 8 by decide)]
    simp
    omega
  refine ⟨rfl, ?_⟩
  unfold bodyC at h ⊢
  by_cases hp : f % 64 < 32
  · rw [if_pos hp]
    have e5 : tkS (L3, E3) (4 * n) = (tkL L3 (4 * n), tkE L3 (4 * n) E3) := rfl
    rw [e5]
    simp only
    have hc : chB (f % 32, t, tkB L3 (4 * n), ()) = bysA f 1 ++ (bysA t 1 ++ (bysA n 2 ++ tkB L3 (4 * n))) := by
      unfold chB
      simp only
      rw [show 128 + f % 32 = f by omega, q4, show 4 * n / 4 = n by omega]
    have hcl := chB_len (f % 32, t, tkB L3 (4 * n), ())
    simp only at hcl
    refine ⟨by omega, by omega, by omega, fun _ => ?_⟩
    rw [hc]
    conv => rhs; rw [hL]
    simp only [List.append_assoc]
  · rw [if_neg hp] at h ⊢
    simp only at h ⊢
    have e5 : tkS (L3, E3) (4 * n) = (tkL L3 (4 * n), tkE L3 (4 * n) E3) := rfl
    rw [e5] at h ⊢
    by_cases hc : (unpadC (tkB L3 (4 * n))).2 = false ∨ ¬ (tkL L3 (4 * n), tkE L3 (4 * n) E3).1 = []
    · rw [if_pos hc] at h
      exact absurd h (wrS_ne _)
    · rw [if_neg hc]
      have hu : (unpadC (tkB L3 (4 * n))).2 = true := by
        cases x : (unpadC (tkB L3 (4 * n))).2 with
        | true => rfl
        | false => exact absurd (Or.inl x) hc
      obtain ⟨u1, u2⟩ := unpadC_ok (tkB_byt hB4 (4 * n)) hu
      have hcl := chB_len (f % 32, t, (unpadC (tkB L3 (4 * n))).1, ())
      simp only at hcl ⊢
      refine ⟨by omega, u2 (by omega), by omega, fun x => by omega⟩
theorem tkS_byt {s : RdS} (h : Byt s.1) (n : Int) : Byt (tkS s n).1 := h.drop _
theorem wrS_byt {s : RdS} (h : Byt s.1) (x : Int) : Byt (wrS s x).1 := by
  unfold wrS; split
  · exact h
  · exact byt_nil
theorem readC_byt {s : RdS} (h : Byt s.1) : Byt (readC s).2.1 := by
  have h1 : Byt (headC s).2.1 := tkS_byt (tkS_byt (tkS_byt h 1) 1) 2
  have h2 : Byt (formC (headC s).1.1 (headC s).2).1 := by
    unfold formC; split
    · exact wrS_byt h1 2
    · exact h1
  show Byt (bodyC _ _ _ _).2.1
  unfold bodyC
  split
  · exact tkS_byt h2 _
  · simp only
    split
    · exact wrS_byt (tkS_byt h2 _) 2
    · exact tkS_byt h2 _
theorem flC_cons (c : Chunk) (l : List Chunk) : flC (c :: l) = chB c ++ flC l := rfl
theorem splitF_flC : ∀ (l : List Chunk) (acc : List Chunk) (n : Nat), l ≠ [] → (∀ c ∈ l, rightB c = true ∧ ChunkOK c) → (flC l).length < n → splitF n acc (flC l, 0) = (acc ++ l, ([], 0))
  | [], _, _, h, _, _ => absurd rfl h
  | _, _, 0, _, _, h => by omega
  | c :: l, acc, n + 1, _, hc, hn => by
    have h1 := hc c (by simp)
    rw [flC_cons] at hn ⊢
    have hr := readC_chB c (flC l) h1.1 h1.2
    have hl := chB_len c
    rw [splitF, hr]
    simp only
    by_cases e : l = []
    · subst e
      rw [if_pos (show flC [] = [] from rfl)]
      rfl
    · have hne : ¬ flC l = [] := by
        obtain ⟨d, l', rfl⟩ := List.exists_cons_of_ne_nil e
        rw [flC_cons]
        intro x
        have := congrArg List.length x
        rw [List.length_append, chB_len] at this
        simp at this
      rw [if_neg hne, splitF_flC l _ n e (fun d hd => hc d (by simp [hd])) (by rw [List.length_append] at hn; omega)]
      simp
theorem splitF_back : ∀ (n : Nat) (acc : List Chunk) (L : List Int) (E : Int), Byt L → L.length < n → (splitF n acc (L, E)).2.2 = 0 →
    ∃ k, (splitF n acc (L, E)).1 = acc ++ k ∧ E = 0 ∧ (∀ c ∈ k, c.1 ≤ 31 ∧ c.2.2.1.length % 4 = 0) ∧ (flC k).length ≤ L.length ∧ ((flC k).length = L.length → flC k = L)
  | 0, _, _, _, _, h, _ => by omega
  | n + 1, acc, L, E, hb, hn, h => by
    have hlen := readC_len (L, E)
    rw [splitF] at h ⊢
    by_cases e : (readC (L, E)).2.1 = []
    · rw [if_pos e] at h ⊢
      obtain ⟨h0, h1, h2, h3, h4⟩ := readC_back L E hb h
      rw [e] at h3 h4
      refine ⟨[(readC (L, E)).1], rfl, h0, fun c hc => ?_, ?_, ?_⟩
      · simp at hc; subst hc; exact ⟨h1, h2⟩
      · rw [flC_cons]; simpa [flC] using h3
      · rw [flC_cons]; simpa [flC] using h4
    · rw [if_neg e] at h ⊢
      have hl2 := List.length_pos_iff.2 e
      have hb2 : Byt (readC (L, E)).2.1 := readC_byt hb
      obtain ⟨k, k1, k2, k3, k4, k5⟩ := splitF_back n (acc ++ [(readC (L, E)).1]) (readC (L, E)).2.1 (readC (L, E)).2.2 hb2 (by simp only at hlen; omega) h
      obtain ⟨h0, h1, h2, h3, h4⟩ := readC_back L E hb k2
      refine ⟨(readC (L, E)).1 :: k, by rw [k1]; simp, h0, fun c hc => ?_, ?_, fun x => ?_⟩
      · simp at hc
        rcases hc with rfl | hc
        · exact ⟨h1, h2⟩
        · exact k3 c hc
      · rw [flC_cons, List.length_append]; omega
      · rw [flC_cons, List.length_append] at x
        rw [flC_cons, k5 (by omega)]
        exact h4 (by omega)
theorem le_sum : ∀ (l : List Nat) (x : Nat), x ∈ l → x ≤ l.sum
  | y :: l, x, h => by
    simp at h
    rcases h with rfl | h
    · simp
    · have := le_sum l x h
      simp; omega
/-- Bytes that are not padded come back. -/
theorem splitC_back {b : List Int} {k : List Chunk} (hb : Byt b) (h : splitC b = (k, 0)) : joinC k = (flC k, 0) ∧ (flC k).length ≤ b.length ∧ ((flC k).length = b.length → flC k = b) ∧ szC k ≤ 200 := by
  unfold splitC at h
  split at h
  · cases h
  · rename_i h200
    split at h
    · rename_i hz
      obtain ⟨k', k1, _, k3, k4, k5⟩ := splitF_back (b.length + 1) [] b 0 hb (by omega) hz
      rw [k1] at h
      obtain rfl : k' = k := by injection h
      have hs : szC k' ≤ 200 := by rw [← flC_len]; omega
      refine ⟨?_, k4, k5, hs⟩
      have hall : k'.all rightB = true := by
        rw [List.all_eq_true]
        intro c hc
        have hle : 4 + c.2.2.1.length ≤ szC k' := by
          unfold szC
          exact le_sum _ _ (List.mem_map.2 ⟨c, hc, rfl⟩)
        rw [rightB_iff]
        exact ⟨(k3 c hc).1, (k3 c hc).2, by omega⟩
      unfold joinC
      rw [if_neg (by rw [hall]; simp), if_neg (by omega)]
    · rename_i x
      exact absurd (congrArg Prod.snd h) x
theorem joinC_ok {l : List Chunk} {x : List Int} (h : joinC l = (x, 0)) : x = flC l ∧ (∀ c ∈ l, rightB c = true) ∧ szC l ≤ 200 := by
  unfold joinC at h
  split at h
  · cases h
  · rename_i h1
    split at h
    · cases h
    · rename_i h2
      have hx : flC l = x := by injection h
      refine ⟨hx.symm, ?_, by omega⟩
      have : l.all rightB = true := by
        cases y : l.all rightB with
        | true => rfl
        | false => exact absurd y h1
      exact List.all_eq_true.1 this
theorem flC_nil_iff (l : List Chunk) : flC l = [] ↔ l = [] := by
  constructor
  · intro h
    cases l with
    | nil => rfl
    | cons c l =>
      have := congrArg List.length h
      rw [flC_cons, List.length_append, chB_len] at this
      simp at this
  · rintro rfl; rfl
/-- Chunks come back. -/
theorem joinC_back {l : List Chunk} {x : List Int} (hk : ∀ c ∈ l, ChunkOK c) (h : joinC l = (x, 0)) (hne : l ≠ []) : splitC x = (l, 0) := by
  obtain ⟨rfl, hr, hs⟩ := joinC_ok h
  unfold splitC
  rw [if_neg (by rw [flC_len]; omega), splitF_flC l [] _ hne (fun c hc => ⟨hr c hc, hk c hc⟩) (by omega)]
  simp
theorem joinC_inj {l m : List Chunk} {x y : List Int} (hl : ∀ c ∈ l, ChunkOK c) (hm : ∀ c ∈ m, ChunkOK c) (h : joinC l = (x, 0)) (h' : joinC m = (y, 0)) : x = y ↔ l = m := by
  constructor
  · rintro rfl
    have e1 := (joinC_ok h).1
    have e2 := (joinC_ok h').1
    by_cases hn : l = []
    · subst hn
      have : flC m = [] := by rw [← e2, e1]; rfl
      exact ((flC_nil_iff m).1 this).symm
    · have hn2 : m ≠ [] := by
        rintro rfl
        exact hn ((flC_nil_iff l).1 (by rw [← e1, e2]; rfl))
      have h1 := joinC_back hl h hn
      have h2 := joinC_back hm h' hn2
      rw [h1] at h2
      injection h2
  · rintro rfl
    rw [h] at h'
    injection h'
theorem joinC_err {l : List Chunk} (h : ¬ (joinC l).2 = 0) : (joinC l).1 = [] := by
  unfold joinC at h ⊢
  split
  · rfl
  · rename_i h1
    rw [if_neg h1] at h
    split
    · rfl
    · rename_i h2
      rw [if_neg h2] at h
      exact absurd rfl h
theorem splitC_nil : splitC [] = ([], 3) := by decide
theorem joinC_nil : joinC [] = ([], 0) := by decide
end Go.Proofs.Ytlnikmcimmnbmaa
/- Chunks: awake, and the law ChunkBack. -/
namespace Go.Proofs.Ytlnikmcimmnbmaa
set_option linter.unusedSimpArgs false
set_option linter.unusedVariables false
open Go.RowKit
set_option maxRecDepth 100000

/-- A slice literal of one struct. -/
theorem SlP.one {α : Type} {n : Nat} {R : Reader α} {w : World} {cs : Array Value} {t B : Nat} {y : α} (hn : cs.size = n) (h0 : 0 < n) (hB : B = w.heap.size) (h : R (w.alloc (.cells cs t)) cs.toList y) :
    SlP n R (w.alloc (.cells cs t)) (.slice (some ⟨B, 0, none⟩) 1 1) [y] := by
  subst hB hn
  refine ⟨_, 1, rfl, by simp, fun i hi => ?_, by simp, by unfold maxLen; omega, fun h => by cases h⟩
  simp at hi
  subst hi
  refine ⟨w.heap.size, 0, cs.toList, rfl, by simp, by simp, fun j hj => ?_, h⟩
  rw [Nat.zero_mul, Nat.add_zero, Nat.zero_add, cell_of_row _ w.heap.size j cs t (0, 0) (blk_new w _)]
  simp
def awC : Chunk := (1, 200, [1, 2, 3, 4], ())
theorem awC_ok : ChunkOK awC := ⟨by decide, by decide, Byt.of_all (by decide)⟩
end Go.Proofs.Ytlnikmcimmnbmaa
/- Reports: how they read; Right. -/
namespace Go.Proofs.Ytlnikmcimmnbmaa
set_option linter.unusedSimpArgs false
set_option linter.unusedVariables false
open Go.RowKit Go.ChangeShapes
set_option maxRecDepth 100000

/-- What is told of a source. -/
structure Blk where
  src : Int
  part : Int
  miss : Int
  high : Int
  jit : Int
  last : Int
  dly : Int
def Blk.tup (b : Blk) : Int × Int × Int × Int × Int × Int × Int := (b.src, b.part, b.miss, b.high, b.jit, b.last, b.dly)
theorem Blk.tup_inj {a b : Blk} (h : a.tup = b.tup) : a = b := by
  obtain ⟨⟩ := a
  obtain ⟨⟩ := b
  simp only [Blk.tup, Prod.mk.injEq] at h
  simp [h]
instance : DecidableEq Blk := fun _ _ => decidable_of_iff _ ⟨Blk.tup_inj, fun h => by rw [h]⟩
/-- What a sender tells of itself. -/
structure Inf where
  sec : Int
  frac : Int
  stamp : Int
  pkts : Int
  octs : Int
def Inf.tup (b : Inf) : Int × Int × Int × Int × Int := (b.sec, b.frac, b.stamp, b.pkts, b.octs)
theorem Inf.tup_inj {a b : Inf} (h : a.tup = b.tup) : a = b := by
  obtain ⟨⟩ := a
  obtain ⟨⟩ := b
  simp only [Inf.tup, Prod.mk.injEq] at h
  simp [h]
instance : DecidableEq Inf := fun _ _ => decidable_of_iff _ ⟨Inf.tup_inj, fun h => by rw [h]⟩
/-- A report. -/
structure Rep where
  snd : Bool
  src : Int
  inf : Inf
  bl : List Blk
def Rep.tup (b : Rep) : Bool × Int × Inf × List Blk := (b.snd, b.src, b.inf, b.bl)
theorem Rep.tup_inj {a b : Rep} (h : a.tup = b.tup) : a = b := by
  obtain ⟨⟩ := a
  obtain ⟨⟩ := b
  simp only [Rep.tup, Prod.mk.injEq] at h
  simp [h]
instance : DecidableEq Rep := fun _ _ => decidable_of_iff _ ⟨Rep.tup_inj, fun h => by rw [h]⟩
structure BlkOK (b : Blk) : Prop where
  src : U32 b.src
  part : 0 ≤ b.part ∧ b.part ≤ 255
  miss : -2147483648 ≤ b.miss ∧ b.miss ≤ 2147483647
  high : U32 b.high
  jit : U32 b.jit
  last : U32 b.last
  dly : U32 b.dly
structure InfOK (b : Inf) : Prop where
  sec : U32 b.sec
  frac : U32 b.frac
  stamp : U32 b.stamp
  pkts : U32 b.pkts
  octs : U32 b.octs
structure RepOK (r : Rep) : Prop where
  src : U32 r.src
  inf : InfOK r.inf
  bl : ∀ b ∈ r.bl, BlkOK b
def Blk.cells (b : Blk) : List Value := [.int .u32 b.src, .int .u8 b.part, .int .i32 b.miss, .int .u32 b.high, .int .u32 b.jit, .int .u32 b.last, .int .u32 b.dly]
def Rep.cells (r : Rep) (vb : Value) : List Value := [.bool r.snd, .int .u32 r.src, .int .u32 r.inf.sec, .int .u32 r.inf.frac, .int .u32 r.inf.stamp, .int .u32 r.inf.pkts, .int .u32 r.inf.octs, vb]
def RBlk : Reader Blk := fun _ cs b => cs = b.cells ∧ BlkOK b
theorem keepsBlk : Keeps RBlk := fun _ _ _ _ _ h => h
def RRep : Reader Rep := fun w cs r => ∃ vb, cs = r.cells vb ∧ SlP 7 RBlk w vb r.bl ∧ RepOK r
theorem keepsRep : Keeps RRep := fun _ _ _ _ m ⟨vb, h1, h2, h3⟩ => ⟨vb, h1, h2.keep keepsBlk m, h3⟩
theorem Opens.map {P : Program} {t : TypeId} {α β : Type} {R : Reader α} {Q : Reader β} (h : Opens P t R) (n : Nat) (hn : ∀ (H : Type) (enc : TypeId × Value → H) (w : World) (base : Nat) (spare : Nat → Bool) (held : Bool) (fuel : Nat) (cs : List Value) (x : DataW H × List MemPlace), DataW.trod enc P w base spare held fuel t cs = some x → cs.length = n)
    (k : ∀ w cs y, cs.length = n → R w cs y → ∃ z, Q w cs z) : Opens P t Q := fun H enc w base spare held fuel cs x hx => by
  obtain ⟨y, hy⟩ := h H enc w base spare held fuel cs x hx
  exact k w cs y (hn H enc w base spare held fuel cs x hx) hy
theorem trod_len {P : Program} {t : TypeId} {fs : Array Field} {n : Nat} (ht : P.underlying t = some (.struct fs)) (hn : P.cellsOf t = n) (H : Type) (enc : TypeId × Value → H) (w : World) (base : Nat) (spare : Nat → Bool) (held : Bool) (fuel : Nat) (cs : List Value) (x : DataW H × List MemPlace)
    (h : DataW.trod enc P w base spare held fuel t cs = some x) : cs.length = n := by
  obtain ⟨_, _, _, _, hl, _⟩ := DataW.trod_struct ht h
  rw [hl, hn]
def TBlk : Reader (Int × Int × Int × Int × Int × Int × Int × Unit) := RCons 1 (RInt .u32) (RCons 1 (RInt .u8) (RCons 1 (RInt .i32) (RCons 1 (RInt .u32) (RCons 1 (RInt .u32) (RCons 1 (RInt .u32) (RCons 1 (RInt .u32) RNil))))))
theorem blk_of_t {w : World} {cs : List Value} {y : Int × Int × Int × Int × Int × Int × Int × Unit} (hl : cs.length = 7) (h : TBlk w cs y) : ∃ z, RBlk w cs z := by
  match cs, hl with
  | [k0, k1, k2, k3, k4, k5, k6], _ =>
    obtain ⟨⟨r0, b0⟩, ⟨r1, b1⟩, ⟨r2, b2⟩, ⟨r3, b3⟩, ⟨r4, b4⟩, ⟨r5, b5⟩, ⟨r6, b6⟩, _⟩ := h
    simp at r0 r1 r2 r3 r4 r5 r6
    subst r0 r1 r2 r3 r4 r5 r6
    exact ⟨⟨_, _, _, _, _, _, _⟩, rfl, ⟨bounds_u32 b0, bounds_u8 b1, bounds_i32 b2, bounds_u32 b3, bounds_u32 b4, bounds_u32 b5, bounds_u32 b6⟩⟩
theorem opensBlk : Opens Try.prog 134 RBlk :=
  Opens.map (R := TBlk) (Opens.struct Try.underlying134 (by kernel_rfl) (OpensF.cons rfl (by kernel_rfl) (Opens.int Try.underlying22) (OpensF.cons rfl (by kernel_rfl) (Opens.int Try.underlying5) (OpensF.cons rfl (by kernel_rfl) (Opens.int Try.underlying21) (OpensF.cons rfl (by kernel_rfl) (Opens.int Try.underlying22) (OpensF.cons rfl (by kernel_rfl) (Opens.int Try.underlying22) (OpensF.cons rfl (by kernel_rfl) (Opens.int Try.underlying22) (OpensF.cons rfl (by kernel_rfl) (Opens.int Try.underlying22) OpensF.nil))))))))
    7 (trod_len Try.underlying134 (by kernel_rfl)) (fun _ _ _ hl h => blk_of_t hl h)
def TInf : Reader (Int × Int × Int × Int × Int × Unit) := RCons 1 (RInt .u32) (RCons 1 (RInt .u32) (RCons 1 (RInt .u32) (RCons 1 (RInt .u32) (RCons 1 (RInt .u32) RNil))))
theorem opensInfT : Opens Try.prog 24 TInf :=
  Opens.struct Try.underlying24 (by kernel_rfl) (OpensF.cons rfl (by kernel_rfl) (Opens.int Try.underlying22) (OpensF.cons rfl (by kernel_rfl) (Opens.int Try.underlying22) (OpensF.cons rfl (by kernel_rfl) (Opens.int Try.underlying22) (OpensF.cons rfl (by kernel_rfl) (Opens.int Try.underlying22) (OpensF.cons rfl (by kernel_rfl) (Opens.int Try.underlying22) OpensF.nil)))))
def TRep : Reader (Bool × Int × (Int × Int × Int × Int × Int × Unit) × List Blk × Unit) := RCons 1 RBool (RCons 1 (RInt .u32) (RCons 5 TInf (RCons 1 (RSl 7 RBlk) RNil)))
theorem slP_mem {α : Type} {n : Nat} {R : Reader α} {w : World} {v : Value} {L : List α} (h : SlP n R w v L) {p : α → Prop} (hp : ∀ cs y, R w cs y → p y) : ∀ b ∈ L, p b := by
  obtain ⟨_, _, _, _, h3, _⟩ := h
  intro b hb
  obtain ⟨i, hi, rfl⟩ := List.mem_iff_getElem.1 hb
  obtain ⟨_, _, _, _, _, _, _, hr⟩ := h3 i hi
  exact hp _ _ hr
theorem rep_of_t {w : World} {cs : List Value} {y : Bool × Int × (Int × Int × Int × Int × Int × Unit) × List Blk × Unit} (hl : cs.length = 8) (h : TRep w cs y) : ∃ z, RRep w cs z := by
  match cs, hl with
  | [k0, k1, k2, k3, k4, k5, k6, k7], _ =>
    obtain ⟨r0, ⟨r1, b1⟩, ⟨⟨r2, b2⟩, ⟨r3, b3⟩, ⟨r4, b4⟩, ⟨r5, b5⟩, ⟨r6, b6⟩, _⟩, ⟨vb, r7, s7⟩, _⟩ := h
    simp [RBool] at r0 r1 r2 r3 r4 r5 r6 r7
    subst r0 r1 r2 r3 r4 r5 r6 r7
    exact ⟨⟨_, _, ⟨_, _, _, _, _⟩, _⟩, k7, rfl, s7, ⟨bounds_u32 b1, ⟨bounds_u32 b2, bounds_u32 b3, bounds_u32 b4, bounds_u32 b5, bounds_u32 b6⟩, slP_mem s7 fun _ _ h => h.2⟩⟩
theorem opensRep : Opens Try.prog 27 RRep :=
  Opens.map (R := TRep) (Opens.struct Try.underlying27 (by kernel_rfl) (OpensF.cons rfl (by kernel_rfl) (Opens.bool Try.underlying4) (OpensF.cons rfl (by kernel_rfl) (Opens.int Try.underlying22) (OpensF.cons rfl (by kernel_rfl) opensInfT (OpensF.cons rfl (by kernel_rfl) (Opens.sl Try.underlying25 (by kernel_rfl) (by decide) opensBlk) OpensF.nil)))))
    8 (trod_len Try.underlying27 (by kernel_rfl)) (fun _ _ _ hl h => rep_of_t hl h)
/-- What a block in a row reads as. -/
def blk0 : Blk := ⟨0, 0, 0, 0, 0, 0, 0⟩
structure BlkAt (w : World) (b off i : Nat) (t : Blk) : Prop where
  c0 : w.cell? ⟨b, off + i * 7, none⟩ = some (.int .u32 t.src)
  c1 : w.cell? ⟨b, off + i * 7 + 1, none⟩ = some (.int .u8 t.part)
  c2 : w.cell? ⟨b, off + i * 7 + 2, none⟩ = some (.int .i32 t.miss)
  c3 : w.cell? ⟨b, off + i * 7 + 3, none⟩ = some (.int .u32 t.high)
  c4 : w.cell? ⟨b, off + i * 7 + 4, none⟩ = some (.int .u32 t.jit)
  c5 : w.cell? ⟨b, off + i * 7 + 5, none⟩ = some (.int .u32 t.last)
  c6 : w.cell? ⟨b, off + i * 7 + 6, none⟩ = some (.int .u32 t.dly)
  ok : BlkOK t
theorem BlkAt.more {w w' : World} {b off i : Nat} {t : Blk} (h : BlkAt w b off i t) (m : More w w') (hb : b < w.heap.size) : BlkAt w' b off i t := by
  obtain ⟨h0, h1, h2, h3, h4, h5, h6, h7⟩ := h
  exact ⟨by rw [m.cells b _ hb]; exact h0, by rw [m.cells b _ hb]; exact h1, by rw [m.cells b _ hb]; exact h2, by rw [m.cells b _ hb]; exact h3, by rw [m.cells b _ hb]; exact h4, by rw [m.cells b _ hb]; exact h5, by rw [m.cells b _ hb]; exact h6, h7⟩
theorem blks {w : World} {v : Value} {l : List Blk} (h : SlP 7 RBlk w v l) : ∃ oa cap, v = .slice oa l.length cap ∧ (l.length : Int) ≤ 9223372036854775807 ∧ ∀ i, i < l.length → ∃ b off, oa = some ⟨b, off, none⟩ ∧ b < w.heap.size ∧ BlkAt w b off i (l.getD i blk0) := by
  obtain ⟨oa, cap, h1, h2, h3, _⟩ := h
  refine ⟨oa, cap, h1, h2, fun i hi => ?_⟩
  obtain ⟨b, off, cs, e, hb, hl, hc, rfl, hk⟩ := h3 i hi
  have eg : l.getD i blk0 = l[i] := by simp [hi]
  rw [eg]
  exact ⟨b, off, e, hb, hc 0 (by omega), hc 1 (by omega), hc 2 (by omega), hc 3 (by omega), hc 4 (by omega), hc 5 (by omega), hc 6 (by omega), hk⟩
end Go.Proofs.Ytlnikmcimmnbmaa
