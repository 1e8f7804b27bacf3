/- The law FeedBack, walked: facts, and what is not looked at. -/
import Derived.Test.YtlnikmcimmnbmaaFeedK
namespace Go.Proofs.Ytlnikmcimmnbmaa
set_option linter.unusedSimpArgs false
set_option linter.unusedVariables false
open Go.RowKit
set_option maxRecDepth 100000

/-- The boxes of the arguments. -/
structure Box3 (w x : World) (or os oc : Obj) : Prop where
  r : x.heap[w.heap.size]? = some or
  s : x.heap[w.heap.size + 1]? = some os
  c : x.heap[w.heap.size + 2]? = some oc
  more : More w x
theorem Box3.new (w : World) (cr cs cc : Array Value) (tr ts tc : Nat) : Box3 w (((w.alloc (.cells cr tr)).alloc (.cells cs ts)).alloc (.cells cc tc)) (.cells cr tr) (.cells cs ts) (.cells cc tc) :=
  ⟨blk_alloc (blk_alloc (blk_new w _) _) _, blk_alloc (blk_new2 (by simp)) _, blk_new2 (by simp), ((More.alloc _ _).al _).al _⟩
theorem Box3.on {w x y : World} {a b c : Obj} (h : Box3 w x a b c) (m : More x y) : Box3 w y a b c := ⟨blk_more m h.r, blk_more m h.s, blk_more m h.c, h.more.trans m⟩
theorem writeM_ok {m : Msg} (hk : MsgOK m) : ChunkOK (writeM m).1 := by
  cases h : rightM m with
  | false => rw [writeM_no h]; exact ⟨by decide, by decide, byt_nil⟩
  | true =>
    rw [writeM_yes h]
    have hbys : ∀ x s, 0 ≤ s ∧ s ≤ 8 → Byt (bysA x s) := fun x s hs => by rw [bysA_pos x s hs]; exact Byt_bys _ _
    have h1 : ∀ l : List (Int × Int), Byt (asB l) := by
      intro l
      induction l with
      | nil => exact byt_nil
      | cons a l ih => rw [asB_cons]; exact byt_app (byt_app (hbys _ _ (by decide)) (byt_app (hbys _ _ (by decide)) (hbys _ _ (by decide)))) ih
    have h2 : ∀ l : List (Int × Int), Byt (psB l) := by
      intro l
      induction l with
      | nil => exact byt_nil
      | cons a l ih => rw [psB_cons]; exact byt_app (byt_app (hbys _ _ (by decide)) (hbys _ _ (by decide))) ih
    refine ⟨?_, ?_, byt_app (hbys _ _ (by decide)) (byt_app (hbys _ _ (by decide)) (byt_app (h1 _) (h2 _)))⟩
    · show 0 ≤ (formM m.kind).2 ∧ (formM m.kind).2 ≤ 255
      unfold formM; split
      · decide
      · split <;> decide
    · show 0 ≤ (formM m.kind).1 ∧ (formM m.kind).1 ≤ 255
      unfold formM; split
      · decide
      · split <;> decide
theorem writeM_small (m : Msg) : (writeM m).1.2.2.1.length ≤ 196 := by
  cases h : rightM m with
  | false => rw [writeM_no h]; exact Nat.zero_le _
  | true => rw [writeM_yes h]; exact (msgB_le h).1
theorem prF_le (ps : List (Int × Int)) : (prF ps).length ≤ 17 * ps.length := (prF_len ps).2
theorem readAsksF_cnt : ∀ (n : Nat) (acc : List (Int × Int)) (s : RdS), s.1.length ≤ n → (readAsksF n acc s).1.length ≤ acc.length + s.1.length
  | 0, acc, s, _ => Nat.le_add_right _ _
  | n + 1, acc, s, h => by
    by_cases hs : s.1 = []
    · obtain ⟨l, e⟩ := s
      simp only at hs
      subst hs
      rw [readAsksF_nil]; exact Nat.le_add_right _ _
    · rw [readAsksF_step hs]
      have h1 := askS_len hs
      have h2 := readAsksF_cnt n (acc ++ [(askS s).1]) (askS s).2 (by omega)
      rw [List.length_append, List.length_singleton] at h2
      omega
theorem readLostF_cnt : ∀ (n : Nat) (acc : List Int) (s : RdS), s.1.length ≤ n → (readLostF n acc s).1.length ≤ acc.length + 17 * s.1.length
  | 0, acc, s, _ => Nat.le_add_right _ _
  | n + 1, acc, s, h => by
    by_cases hs : s.1 = []
    · obtain ⟨l, e⟩ := s
      simp only at hs
      subst hs
      rw [readLostF_nil]; exact Nat.le_add_right _ _
    · rw [readLostF_step hs]
      have h1 := prS_len hs
      have h4 := newS_len acc (prS s).1 (prS s).2
      have h2 := readLostF_cnt n (acc ++ prN (prS s).1) (newS acc (prS s).1 (prS s).2) (by omega)
      have h3 := (prN_len (prS s).1).2
      rw [List.length_append] at h2
      omega
theorem lostS_len (s : RdS) : (lostS s).1.length ≤ s.1.length := by
  unfold lostS; split
  · exact wrS_len s 2
  · exact Nat.le_refl _
/-- What is read is small. -/
theorem readM_small {c : Chunk} (h : c.2.2.1.length ≤ 400) : (readM c).1.asks.length ≤ 100000 ∧ (readM c).1.lost.length ≤ 100000 := by
  have hd : ∀ (m : Msg) (s : RdS), m.asks.length ≤ 100000 ∧ m.lost.length ≤ 100000 → (doneM m s).1.asks.length ≤ 100000 ∧ (doneM m s).1.lost.length ≤ 100000 := by
    intro m s h
    unfold doneM
    split
    · exact h
    · exact ⟨Nat.zero_le _, Nat.zero_le _⟩
  have hl : (tkS (tkS (c.2.2.1, 0) 4) 4).1.length ≤ 400 := Nat.le_trans (tkS_len _ _) (Nat.le_trans (tkS_len _ _) h)
  unfold readM
  split
  · exact ⟨Nat.zero_le _, Nat.zero_le _⟩
  · split
    · exact ⟨Nat.zero_le _, Nat.zero_le _⟩
    · unfold restM
      generalize tkS (tkS (c.2.2.1, 0) 4) 4 = s at *
      split
      · have h1 := asksS_len (rdNum (tkS (c.2.2.1, 0) 4)) s
        have h2 := readAsksF_cnt s.1.length [] (asksS (rdNum (tkS (c.2.2.1, 0) 4)) s) h1
        exact hd _ _ ⟨by simp only [List.length_nil] at h2 ⊢; omega, Nat.zero_le _⟩
      · split
        · have h1 := lostS_len s
          have h2 := readLostF_cnt s.1.length [] (lostS s) h1
          exact hd _ _ ⟨Nat.zero_le _, by simp only [List.length_nil] at h2 ⊢; omega⟩
        · exact hd _ _ ⟨Nat.zero_le _, Nat.zero_le _⟩
set_option maxHeartbeats 4000000 in
theorem FeedBack_long (m n : Msg) (c : Chunk) (oa1 ol1 oa2 ol2 oc : Option Addr) (ka1 kl1 ka2 kl2 kc : Nat) (w : World) (hx : lrgM m = true ∨ (lrgM m = false ∧ lrgM n = true) ∨ (lrgM m = false ∧ lrgM n = false ∧ (400 : Int) < c.2.2.1.length)) :
    Calls Try.prog 8 #[.agg #[.int .i64 m.kind, .int .u32 m.snd, .int .u32 m.med, .slice oa1 m.asks.length ka1, .slice ol1 m.lost.length kl1], .agg #[.int .i64 n.kind, .int .u32 n.snd, .int .u32 n.med, .slice oa2 n.asks.length ka2, .slice ol2 n.lost.length kl2], .agg #[.int .u8 c.1, .int .u8 c.2.1, .slice oc c.2.2.1.length kc]] w fun e w' => e = .returned (.bool true) ∧ More w w' := by
  rcases hx with h1 | ⟨h1, h2⟩ | ⟨h1, h2, h3⟩
  · have H1 := Lib.hid h1
    clear h1
    go_enter Try.func8, Try.ntmps8
    go_wp2_with (first | (go_at_call 42; ((with_reducible refine (awake09 _).mono ?_); rintro e w1 ⟨rfl, m1⟩; have X1 := Lib.hid ((Box3.new w #[.int .i64 m.kind, .int .u32 m.snd, .int .u32 m.med, .slice oa1 m.asks.length ka1, .slice ol1 m.lost.length kl1] #[.int .i64 n.kind, .int .u32 n.snd, .int .u32 n.med, .slice oa2 n.asks.length ka2, .slice ol2 n.lost.length kl2] #[.int .u8 c.1, .int .u8 c.2.1, .slice oc c.2.2.1.length kc] 85 85 30).on m1); clear m1; obtain ⟨x0, x1, x2, x3, x4⟩ := cells5 X1.out.r)) | (go_at_call 43; ((with_reducible refine (large09 m oa1 ol1 ka1 kl1 _).mono ?_); rintro e w2 ⟨rfl, m2⟩; rw [H1.out]; have X2 := Lib.hid (X1.out.on m2); clear m2 x0 x1 x2 x3 x4)))
    go_ret
    exact ⟨rfl, X2.out.more⟩
  · have H1 := Lib.hid h1
    have H2 := Lib.hid h2
    clear h1 h2
    go_enter Try.func8, Try.ntmps8
    go_wp2_with (first | (go_at_call 42; ((with_reducible refine (awake09 _).mono ?_); rintro e w1 ⟨rfl, m1⟩; have X1 := Lib.hid ((Box3.new w #[.int .i64 m.kind, .int .u32 m.snd, .int .u32 m.med, .slice oa1 m.asks.length ka1, .slice ol1 m.lost.length kl1] #[.int .i64 n.kind, .int .u32 n.snd, .int .u32 n.med, .slice oa2 n.asks.length ka2, .slice ol2 n.lost.length kl2] #[.int .u8 c.1, .int .u8 c.2.1, .slice oc c.2.2.1.length kc] 85 85 30).on m1); clear m1; obtain ⟨x0, x1, x2, x3, x4⟩ := cells5 X1.out.r)) | (go_at_call 43; ((with_reducible refine (large09 m oa1 ol1 ka1 kl1 w1).mono ?_); rintro e w2 ⟨rfl, m2⟩; rw [H1.out]; have X2 := Lib.hid (X1.out.on m2); clear m2 x0 x1 x2 x3 x4; obtain ⟨x0, x1, x2, x3, x4⟩ := cells5 X2.out.s)) | (go_at_call 43; ((with_reducible refine (large09 n oa2 ol2 ka2 kl2 w2).mono ?_); rintro e w3 ⟨rfl, m3⟩; rw [H2.out]; have X3' := Lib.hid (X2.out.on m3); clear m3 x0 x1 x2 x3 x4)))
    go_ret
    exact ⟨rfl, X3'.out.more⟩
  · have H1 := Lib.hid h1
    have H2 := Lib.hid h2
    clear h1 h2
    go_enter Try.func8, Try.ntmps8
    go_wp2_with (first | (go_at_call 42; ((with_reducible refine (awake09 _).mono ?_); rintro e w1 ⟨rfl, m1⟩; have X1 := Lib.hid ((Box3.new w #[.int .i64 m.kind, .int .u32 m.snd, .int .u32 m.med, .slice oa1 m.asks.length ka1, .slice ol1 m.lost.length kl1] #[.int .i64 n.kind, .int .u32 n.snd, .int .u32 n.med, .slice oa2 n.asks.length ka2, .slice ol2 n.lost.length kl2] #[.int .u8 c.1, .int .u8 c.2.1, .slice oc c.2.2.1.length kc] 85 85 30).on m1); clear m1; obtain ⟨x0, x1, x2, x3, x4⟩ := cells5 X1.out.r)) | (go_at_call 43; ((with_reducible refine (large09 m oa1 ol1 ka1 kl1 w1).mono ?_); rintro e w2 ⟨rfl, m2⟩; rw [H1.out]; have X2 := Lib.hid (X1.out.on m2); clear m2 x0 x1 x2 x3 x4; obtain ⟨x0, x1, x2, x3, x4⟩ := cells5 X2.out.s)) | (go_at_call 43; ((with_reducible refine (large09 n oa2 ol2 ka2 kl2 w2).mono ?_); rintro e w3 ⟨rfl, m3⟩; rw [H2.out]; have X3' := Lib.hid (X2.out.on m3); clear m3 x0 x1 x2 x3 x4; have z2 := blk_cell X3'.out.c 2 (v := .slice oc c.2.2.1.length kc) rfl)))
    go_ret
    exact ⟨rfl, X3'.out.more⟩
end Go.Proofs.Ytlnikmcimmnbmaa
