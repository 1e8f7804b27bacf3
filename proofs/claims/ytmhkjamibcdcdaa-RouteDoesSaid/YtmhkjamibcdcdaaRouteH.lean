/- Tables: what holds of each, whatever was done. -/
import Derived.Test.YtmhkjamibcdcdaaRouteF
import Derived.Test.YtmhkjamibcdcdaaRowS
namespace Go.Proofs.Ytmhkjamibcdcdaa
open Go.RowKit
set_option maxRecDepth 100000

section
variable {K V : Type} [DecidableEq K]
theorem mget_put (k k' : K) (v : V) : ∀ (m : List (K × V)), mget (mput m k v) k' = if k' = k then some v else mget m k'
  | [] => by by_cases e : k' = k <;> simp [mput, mget, e]
  | (a, b) :: l => by
    unfold mput
    by_cases e : k = a
    · subst e
      rw [if_pos rfl]
      by_cases e2 : k' = k <;> simp [mget, e2]
    · rw [if_neg e]
      by_cases e2 : k' = a
      · subst e2
        have : ¬ k' = k := fun h => e h.symm
        simp [mget, this]
      · simp [mget, e2, mget_put k k' v l]
theorem mget_in {m : List (K × V)} (hn : (m.map Prod.fst).Nodup) {k : K} {f : V} : mget m k = some f ↔ (k, f) ∈ m := by
  induction m with
  | nil => simp [mget]
  | cons p l ih =>
    obtain ⟨a, b⟩ := p
    simp only [List.map_cons, List.nodup_cons] at hn
    unfold mget
    by_cases e : k = a
    · subst e
      rw [if_pos rfl]
      constructor
      · intro h; cases h; exact List.mem_cons_self
      · intro h
        rcases List.mem_cons.1 h with h | h
        · cases h; rfl
        · exact absurd (List.mem_map.2 ⟨_, h, rfl⟩) hn.1
    · rw [if_neg e, ih hn.2]
      simp only [List.mem_cons, Prod.mk.injEq]
      exact ⟨fun h => Or.inr h, fun h => by rcases h with ⟨h, _⟩ | h; exact absurd h e; exact h⟩
theorem mdel_sub (k : K) : ∀ (m : List (K × V)) {p : K × V}, p ∈ mdel m k → p ∈ m
  | [], _, h => h
  | (a, b) :: l, p, h => by
    unfold mdel at h
    split at h
    · exact List.mem_cons_of_mem _ h
    · rcases List.mem_cons.1 h with h | h
      · rw [h]; exact List.mem_cons_self
      · exact List.mem_cons_of_mem _ (mdel_sub k l h)
end
/-- What holds of each table. -/
structure Inv (t : TS) : Prop where
  back : ∀ k v, mget t.s k = some v → mget t.o v = some k
  lay : ∀ p k : Int, 0 ≤ k → k < 3 → (mget t.s (p, k)).isSome = (mget t.s (p, 0)).isSome
  us : ∀ x sb, mget t.u x = some sb → 0 ≤ x ∧ x < 6 ∧ (sb.2.1 = true → 0 ≤ sb.2.2 ∧ sb.2.2 < 3)
theorem Inv.nil : Inv ⟨[], [], []⟩ := ⟨fun k v h => by simp [mget] at h, fun p k _ _ => by simp [mget], fun x sb h => by simp [mget] at h⟩
theorem Inv.put {t : TS} (h : Inv t) {x : Int} {sb : Sb} (h1 : 0 ≤ x ∧ x < 6) (h2 : sb.2.1 = true → 0 ≤ sb.2.2 ∧ sb.2.2 < 3) : Inv { t with u := mput t.u x sb } :=
  ⟨h.back, h.lay, fun y sy hy => by
    simp only [mget_put] at hy
    by_cases e : y = x
    · rw [if_pos e] at hy
      cases hy
      subst e
      exact ⟨h1.1, h1.2, h2⟩
    · rw [if_neg e] at hy
      exact h.us y sy hy⟩
theorem Inv.pub {t : TS} (h : Inv t) {p s0 s1 s2 : Int} (hd : ¬ dup3 s0 s1 s2) (hn : ¬ ((mget t.o s0).isSome ∨ (mget t.o s1).isSome ∨ (mget t.o s2).isSome)) : Inv { t with o := oAt t.o p s0 s1 s2 3, s := sAt t.s p s0 s1 s2 3 } := by
  unfold dup3 at hd
  have n0 : mget t.o s0 = none := by
    cases e : mget t.o s0 with
    | none => rfl
    | some z => exact absurd (Or.inl (by rw [e]; rfl)) hn
  have n1 : mget t.o s1 = none := by
    cases e : mget t.o s1 with
    | none => rfl
    | some z => exact absurd (Or.inr (Or.inl (by rw [e]; rfl))) hn
  have n2 : mget t.o s2 = none := by
    cases e : mget t.o s2 with
    | none => rfl
    | some z => exact absurd (Or.inr (Or.inr (by rw [e]; rfl))) hn
  have d1 : ¬ s1 = s0 := fun e => hd (Or.inl e)
  have d2 : ¬ s2 = s0 := fun e => hd (Or.inr (Or.inl e))
  have d3 : ¬ s2 = s1 := fun e => hd (Or.inr (Or.inr e))
  refine ⟨fun k v hk => ?_, fun q k hk0 hk3 => ?_, h.us⟩
  · simp only [oAt, sAt, mget_put] at hk ⊢
    by_cases e2 : k = (p, 2)
    · rw [if_pos e2] at hk
      cases hk
      rw [if_pos rfl, e2]
    · rw [if_neg e2] at hk
      by_cases e1 : k = (p, 1)
      · rw [if_pos e1] at hk
        cases hk
        rw [if_neg (fun e => d3 e.symm), if_pos rfl, e1]
      · rw [if_neg e1] at hk
        by_cases e0 : k = (p, 0)
        · rw [if_pos e0] at hk
          cases hk
          rw [if_neg (fun e => d2 e.symm), if_neg (fun e => d1 e.symm), if_pos rfl, e0]
        · rw [if_neg e0] at hk
          have hb := h.back k v hk
          rw [if_neg (fun e => by rw [e, n2] at hb; cases hb), if_neg (fun e => by rw [e, n1] at hb; cases hb), if_neg (fun e => by rw [e, n0] at hb; cases hb)]
          exact hb
  · simp only [sAt, mget_put]
    by_cases e : q = p
    · subst e
      have : k = 0 ∨ k = 1 ∨ k = 2 := by omega
      rcases this with rfl | rfl | rfl <;> simp
    · have f : ∀ i : Int, ¬ (q, k) = (p, i) := fun i h => e (Prod.mk.inj h).1
      have g : ∀ i : Int, ¬ (q, (0 : Int)) = (p, i) := fun i h => e (Prod.mk.inj h).1
      rw [if_neg (f 2), if_neg (f 1), if_neg (f 0), if_neg (g 2), if_neg (g 1), if_neg (g 0)]
      exact h.lay q k hk0 hk3
theorem Inv.do {t : TS} (h : Inv t) (hn : (t.u.map Prod.fst).Nodup) (y : A19) : Inv (doT t y).1 := by
  unfold doT
  split
  · unfold pubT
    split
    · split
      · exact h
      · split
        · exact h
        · split
          · exact h
          · exact h.pub (by assumption) (by assumption)
    · exact h
  · split
    · unfold joinT
      split
      · split
        · exact h
        · exact h.put (by assumption) (fun e => by cases e)
      · exact h
    · split
      · unfold leaveT
        split
        · split
          · refine ⟨h.back, h.lay, fun x sb hx => h.us x sb ?_⟩
            rw [mget_in (mdel_keys _ _ hn)] at hx
            rw [mget_in hn]
            exact mdel_sub _ _ hx
          · exact h
        · exact h
      · split
        · unfold subT
          split
          · rename_i hxp
            split
            · split
              · exact h
              · exact h.put hxp.1 (fun _ => hxp.2)
            · exact h
          · exact h
        · split
          · unfold unsubT
            split
            · split
              · exact h.put (by assumption) (fun e => by cases e)
              · exact h
            · exact h
          · exact h
/-- Who is subscribed to a publisher. -/
theorem which_mem {u : List (Int × Sb)} (hn : (u.map Prod.fst).Nodup) (p x : Int) : x ∈ whichT (prPub p) u ↔ ∃ sb, mget u x = some sb ∧ sb.2.1 = true ∧ sb.2.2 = p := by
  unfold whichT selT
  rw [srt_mem, List.mem_filterMap]
  constructor
  · rintro ⟨⟨k, sb⟩, hm, h⟩
    by_cases e : prPub p sb = true
    · simp only [e, if_true] at h
      cases h
      unfold prPub at e
      simp only [Bool.and_eq_true, decide_eq_true_eq] at e
      exact ⟨sb, (mget_in hn).2 hm, e.1, e.2⟩
    · simp [e] at h
  · rintro ⟨sb, h1, h2, h3⟩
    refine ⟨(x, sb), (mget_in hn).1 h1, ?_⟩
    have : prPub p sb = true := by unfold prPub; simp [h2, h3]
    simp [this]
theorem which_nd {u : List (Int × Sb)} (hn : (u.map Prod.fst).Nodup) (p : Int) : (whichT (prPub p) u).Nodup := by
  unfold whichT srt
  rw [(List.mergeSort_perm _ _).nodup_iff]
  have : selT (prPub p) u = (u.filter fun q => prPub p q.2).map Prod.fst := by
    unfold selT
    induction u with
    | nil => rfl
    | cons q l ih =>
      have ih := ih (by simp only [List.map_cons, List.nodup_cons] at hn; exact hn.2)
      by_cases e : prPub p q.2 = true <;> simp [e, ih]
  rw [this]
  exact List.Nodup.sublist ((List.filter_sublist).map _) hn
theorem which_lt {u : List (Int × Sb)} (hn : (u.map Prod.fst).Nodup) (p : Int) : (whichT (prPub p) u).Pairwise (· < ·) := by
  have h1 : (whichT (prPub p) u).Pairwise (· ≤ ·) := srt_pair _
  have h2 := which_nd hn p
  refine (h1.and h2).imp fun {a b} h => ?_
  have := h.1
  have := h.2
  omega
/-- All that are subscribed to those ahead of a publisher. -/
def Pl (u : List (Int × Sb)) : Nat → List Int
  | 0 => []
  | n + 1 => Pl u n ++ whichT (prPub (n : Int)) u
theorem cnt_nd {x : Int} : ∀ {l : List Int}, l.Nodup → x ∈ l → l.count x = 1
  | [], _, h => by cases h
  | a :: l, hn, h => by
    rw [List.nodup_cons] at hn
    by_cases e : a = x
    · subst e
      rw [List.count_cons_self, List.count_eq_zero_of_not_mem hn.1]
    · rw [List.count_cons_of_ne e]
      exact cnt_nd hn.2 (by rcases List.mem_cons.1 h with h | h; exact absurd h.symm e; exact h)
theorem pl_count {t : TS} (h : Inv t) (hn : (t.u.map Prod.fst).Nodup) (x : Int) : (((Pl t.u 3).count x : Nat) : Int) = if ((mget t.u x).getD sb0).2.1 = true then 1 else 0 := by
  have hc : ∀ p : Int, (whichT (prPub p) t.u).count x = if x ∈ whichT (prPub p) t.u then 1 else 0 := fun p => by
    by_cases e : x ∈ whichT (prPub p) t.u
    · rw [if_pos e]; exact cnt_nd (which_nd hn p) e
    · rw [if_neg e]; exact List.count_eq_zero_of_not_mem e
  have e3 : (Pl t.u 3).count x = (whichT (prPub 0) t.u).count x + (whichT (prPub 1) t.u).count x + (whichT (prPub 2) t.u).count x := by
    simp [Pl, Nat.add_assoc]
  rw [e3]
  simp only [hc, which_mem hn]
  cases hm : mget t.u x with
  | none => simp [sb0]
  | some sb =>
    have hu := h.us x sb hm
    by_cases hb : sb.2.1 = true
    · have := hu.2.2 hb
      have : sb.2.2 = 0 ∨ sb.2.2 = 1 ∨ sb.2.2 = 2 := by omega
      rcases this with e | e | e <;> simp [hb, e]
    · simp [hb]
def LA (l : List Int) : Array Value := #[.int .i64 ((l.count 0 : Nat) : Int), .int .i64 ((l.count 1 : Nat) : Int), .int .i64 ((l.count 2 : Nat) : Int), .int .i64 ((l.count 3 : Nat) : Int), .int .i64 ((l.count 4 : Nat) : Int), .int .i64 ((l.count 5 : Nat) : Int)]
theorem LA_at (l : List Int) (n : Nat) (h : n < 6) : (LA l)[n]? = some (.int .i64 ((l.count (n : Int) : Nat) : Int)) := by
  have : n = 0 ∨ n = 1 ∨ n = 2 ∨ n = 3 ∨ n = 4 ∨ n = 5 := by omega
  rcases this with rfl | rfl | rfl | rfl | rfl | rfl <;> rfl
theorem LA_step (l : List Int) (n : Nat) (h : n < 6) : (LA l).setIfInBounds n (.int .i64 (((l.count (n : Int) : Nat) : Int) + 1)) = LA (l ++ [(n : Int)]) := by
  unfold LA
  simp only [List.count_append, List.count_singleton]
  have : n = 0 ∨ n = 1 ∨ n = 2 ∨ n = 3 ∨ n = 4 ∨ n = 5 := by omega
  rcases this with rfl | rfl | rfl | rfl | rfl | rfl <;> simp
theorem idx6 (c0 c1 c2 c3 c4 c5 : Int) (t : Nat) (ht : t < 6) (w : World) : (Instr.index 84 (.agg #[.int .i64 c0, .int .i64 c1, .int .i64 c2, .int .i64 c3, .int .i64 c4, .int .i64 c5]) (.int .i64 (t : Int))).run Try.prog w = .ok (.int .i64 ([c0, c1, c2, c3, c4, c5].getD t 0)) w := by
  have : t = 0 ∨ t = 1 ∨ t = 2 ∨ t = 3 ∨ t = 4 ∨ t = 5 := by omega
  rcases this with rfl | rfl | rfl | rfl | rfl | rfl
  all_goals first | rfl | simp [go_sem]
theorem org_neq (x y : Int) (w : World) : (binOp .neq 74 (.agg #[.int .i64 x, .int .i64 y]) (.agg #[.int .i64 x, .int .i64 y])).run Try.prog w = .ok (.bool false) w := by
  have h1 : Try.prog.stoodInHeld 74 = false := by kernel_rfl
  rw [run_neq_struct, show (10000 : Nat) = 9999 + 1 from rfl, run_equalIn_agg w 9999 74 _ _ (by kernel_rfl) h1]
  simp [go_sem]
theorem pl_len (u : List (Int × Sb)) : ∀ n, (Pl u n).length ≤ n * u.length
  | 0 => by simp [Pl]
  | n + 1 => by
    have h1 := pl_len u n
    have h2 := selT_len (prPub (n : Int)) u
    have h3 : (whichT (prPub (n : Int)) u).length = (selT (prPub (n : Int)) u).length := srt_len _
    rw [Nat.add_mul, Nat.one_mul]
    unfold Pl
    rw [List.length_append]
    omega
theorem RTSubsN {w : World} {T a b c : Nat} {t : TS} (h : TabAt w T a b c t) (v0 : Int) (hlen : t.u.length ≤ 1000000) :
    Calls Try.prog 47 #[.pointer (some ⟨T, 0, none⟩), .int .i64 v0] w fun e w' => (∃ v, e = .returned v ∧ SlI .i64 w' v (whichT (prPub v0) t.u) ∧ ∀ q, v.ownBlock = some q → w.heap.size ≤ q) ∧ More w w' := by
  go_enter Try.func47, Try.ntmps47
  go_wp2_with (go_at_call 87; ((with_reducible refine (WhichSubs (h.more (More.alloc w (.cells #[.int .i64 v0] 3))) v0 (blk_new w _) hlen).mono ?_); rintro e w2 ⟨⟨v, rfl, s, hq⟩, m⟩; have S := Lib.hid s; have M := Lib.hid m; have HQ := Lib.hid hq; clear s m hq))
  go_ret
  exact ⟨⟨_, rfl, S.out, fun q hq => Nat.le_trans (by simp) (HQ.out q hq)⟩, (More.alloc _ _).trans M.out⟩
end Go.Proofs.Ytmhkjamibcdcdaa
