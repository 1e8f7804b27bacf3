/- Merged from my texts LaneSp, ProbeP, ByteF. -/
import Derived.Test.YtdgmmffedhikcaaMg30
import Derived.Test.YtdgmmffedhikcaaMg5
import Derived.Test.YtdgmmffedhikcaaMg6
/- Seqs, plain: they tell what was dropped behind rewriting, and nothing else. -/
namespace Go.Proofs.Ytdgmmffedhikcaa
set_option linter.unusedSimpArgs false
set_option linter.unusedVariables false
open Go.RowKit
set_option maxRecDepth 100000

/-- Things that were rewritten, and of all that passed the how manyth each is. -/
def SOuts (sq0 : Int) (Q : List Int) (l : List (Int × List Int)) (ks : List Nat) : Prop :=
  All2 (fun (o : Int × List Int) (k : Nat) => Q[k]? = some o.1 ∧ ∃ q : Pk, o.2 = pkB q ∧ q.sq = (sq0 + (k : Int)) % 65536 ∧ rightH q = true ∧ PkOK q) l ks
theorem SOuts.app {sq0 : Int} {Q : List Int} {l : List (Int × List Int)} {ks : List Nat} (h : SOuts sq0 Q l ks) (i : Int) : SOuts sq0 (Q ++ [i]) l ks := by
  unfold SOuts at h ⊢
  exact All2.mono (fun o k ⟨h1, h2⟩ => ⟨by rw [List.getElem?_append_left (List.getElem?_eq_some_iff.1 h1).1]; exact h1, h2⟩) h
theorem SOuts.tl {sq0 : Int} {Q : List Int} {l : List (Int × List Int)} {ks : List Nat} (h : SOuts sq0 Q l ks) : SOuts sq0 Q l.tail ks.tail := by
  unfold SOuts at h ⊢
  exact All2.tl h
theorem SOuts.sn {sq0 : Int} {Q : List Int} {l : List (Int × List Int)} {ks : List Nat} {o : Int × List Int} {k : Nat} (h : SOuts sq0 Q l ks) (hn : Q[k]? = some o.1 ∧ ∃ q : Pk, o.2 = pkB q ∧ q.sq = (sq0 + (k : Int)) % 65536 ∧ rightH q = true ∧ PkOK q) : SOuts sq0 Q (l ++ [o]) (ks ++ [k]) := by
  unfold SOuts at h ⊢
  exact All2.snoc h hn
structure SInv (sq0 : Int) (s : LnS) (Q : List Int) (r p : Nat) (D : List Int) (kw kc : List Nat) : Prop where
  nd : (Q ++ s.A.map (·.id)).Nodup
  rng : ∀ i ∈ Q ++ s.A.map (·.id), 0 ≤ i ∧ i < (p : Int)
  le : r ≤ Q.length
  b : s.gone = false → s.B.map (·.1.id) = Q.drop r
  dead : s.gone = true → s.A = [] ∧ s.B = [] ∧ s.C = []
  sq : s.rw.sq = (sq0 + (r : Int)) % 65536
  w : SOuts sq0 Q s.W kw
  c : SOuts sq0 Q s.C kc
  asc : (kw ++ kc).Pairwise (· < ·)
  lt : ∀ k ∈ kw ++ kc, k < r
  all : ∀ k, k < r → k ∈ kw ++ kc ∨ Q.getD k 0 ∈ D ∨ (s.gone = true ∧ ∀ k' ∈ kw, k' < k)
  ra : ∀ x ∈ s.A, rightH x.pk = true ∧ PkOK x.pk
  rb : ∀ y ∈ s.B, rightH y.1.pk = true ∧ PkOK y.1.pk
theorem getD_snocI {Q : List Int} {k : Nat} (h : k < Q.length) (i : Int) : (Q ++ [i]).getD k 0 = Q.getD k 0 := by
  rw [List.getD_eq_getElem?_getD, List.getD_eq_getElem?_getD, List.getElem?_append_left h]
section
variable {sq0 : Int} {s : LnS} {Q : List Int} {r p : Nat} {D : List Int} {kw kc : List Nat}
theorem SInv.choose (h : SInv sq0 s Q r p D kw kc) : SInv sq0 (chooseP s).1 (if (chooseP s).2.2.2 && ((chooseP s).2.2.1 == 0) then Q ++ [(chooseP s).2.1] else Q) r p D kw kc := by
  rcases chooseP_eq s with ⟨_, e⟩ | ⟨_, x, A, eA, _, e⟩
  · rw [e]; exact h
  · have hg : s.gone = false := by
      cases hg : s.gone with
      | false => rfl
      | true => have := (h.dead hg).1; rw [eA] at this; cases this
    rw [e]
    have hnd := h.nd
    have hrng := h.rng
    rw [eA] at hnd hrng
    simp only [List.map_cons] at hnd hrng
    generalize (takeP s.cur s.tgt x.layer x.key).1 = c'
    generalize (takeP s.cur s.tgt x.layer x.key).2.2 = fi
    generalize (takeP s.cur s.tgt x.layer x.key).2.1 = f
    by_cases hf : f = 0
    · subst hf
      simp only [beq_self_eq_true, Bool.and_true, if_true]
      refine ⟨by simpa using hnd, fun i hi => hrng i (by simpa using hi), by simp; have := h.le; omega, fun _ => ?_, fun e => ?_, h.sq, h.w.app _, h.c.app _, h.asc, h.lt, fun k hk => ?_, fun y hy => h.ra y (by rw [eA]; exact List.mem_cons_of_mem _ hy), fun y hy => ?_⟩
      · show (s.B ++ [(x, fi)]).map (·.1.id) = _
        rw [List.map_append, h.b hg, List.drop_append_of_le_length h.le]
        rfl
      · have e : s.gone = true := e
        rw [hg] at e; cases e
      · rw [getD_snocI (by have := h.le; omega)]
        exact h.all k hk
      · rcases List.mem_append.1 hy with hy | hy
        · exact h.rb y hy
        · obtain rfl := List.mem_singleton.1 hy
          exact h.ra x (by rw [eA]; simp)
    · have hb : (true && (f == 0)) = false := by simpa using hf
      simp only [hb, hf, if_false, Bool.false_eq_true]
      refine ⟨hnd.sublist (List.Sublist.append_left (List.sublist_cons_self _ _) _), fun i hi => hrng i ?_, h.le, fun hg => h.b hg, fun e => ?_, h.sq, h.w, h.c, h.asc, h.lt, h.all, fun y hy => h.ra y (by rw [eA]; exact List.mem_cons_of_mem _ hy), h.rb⟩
      · rcases List.mem_append.1 hi with hi | hi
        · exact List.mem_append_left _ hi
        · exact List.mem_append_right _ (List.mem_cons_of_mem _ hi)
      · have e : s.gone = true := e
        rw [hg] at e; cases e
theorem SInv.rewrite (h : SInv sq0 s Q r p D kw kc) (hok : LnOK s) (h1 : 1 ≤ s.room) : ∃ kc', SInv sq0 (rewriteP s).1 Q (if (rewriteP s).2.2.2 then r + 1 else r) p (if (rewriteP s).2.2.1 then D ++ [(rewriteP s).2.1] else D) kw kc' := by
  rcases rewriteP_eq s with ⟨_, e⟩ | ⟨x, f, B, eB, e⟩
  · rw [e]; exact ⟨kc, h⟩
  · have hg : s.gone = false := by
      cases hg : s.gone with
      | false => rfl
      | true => have := (h.dead hg).2.1; rw [eB] at this; cases this
    have hB := h.b hg
    rw [eB, List.map_cons] at hB
    have hr : r < Q.length := by
      have := congrArg List.length hB
      simp at this
      omega
    have hQr : Q[r]? = some x.id := by
      have := congrArg (fun l : List Int => l[0]?) hB
      simp at this
      rw [List.getElem?_eq_getElem hr]
      rw [List.getElem?_eq_getElem hr] at this
      exact this.symm
    have hBt : B.map (·.1.id) = Q.drop (r + 1) := by
      have := congrArg List.tail hB
      simpa using this
    obtain ⟨hx, hxk⟩ := h.rb (x, f) (by rw [eB]; simp)
    have hnew : Q[r]? = some x.id ∧ ∃ q : Pk, pkB (tellP s.rw x.pk f) = pkB q ∧ q.sq = (sq0 + (r : Int)) % 65536 ∧ rightH q = true ∧ PkOK q :=
      ⟨hQr, tellP s.rw x.pk f, rfl, h.sq, hx, ⟨hxk.ty, hok.sq, ⟨by show 0 ≤ (x.pk.st + shL s.rw x.pk.st f) % 4294967296; omega, by show (x.pk.st + shL s.rw x.pk.st f) % 4294967296 ≤ _; omega⟩, hok.src, hxk.ss, hxk.pr, hxk.ex, hxk.pl⟩⟩
    rw [e]
    have hsq : (s.rw.sq + 1) % 65536 = (sq0 + ((r + 1 : Nat) : Int)) % 65536 := by rw [h.sq]; omega
    by_cases hl : s.C.length < s.room
    · simp only [hl, if_true, not_true, decide_false, Bool.false_eq_true, if_false]
      refine ⟨kc ++ [r], h.nd, h.rng, hr, fun _ => hBt, fun e => ?_, hsq, h.w, SOuts.sn (o := (x.id, pkB (tellP s.rw x.pk f))) h.c hnew, ?_, ?_, fun k hk => ?_, h.ra, fun y hy => h.rb y (by rw [eB]; exact List.mem_cons_of_mem _ hy)⟩
      · have e : s.gone = true := e
        rw [hg] at e; cases e
      · rw [← List.append_assoc]
        exact List.pairwise_append.2 ⟨h.asc, by simp, fun a ha b hb => by
          obtain rfl := List.mem_singleton.1 hb
          exact h.lt a ha⟩
      · intro k hk
        rw [← List.append_assoc] at hk
        rcases List.mem_append.1 hk with hk | hk
        · have := h.lt k hk; omega
        · obtain rfl := List.mem_singleton.1 hk
          omega
      · by_cases hkr : k = r
        · subst hkr
          exact Or.inl (by simp)
        · rcases h.all k (by omega) with h3 | h3 | h3
          · exact Or.inl (by rw [← List.append_assoc]; exact List.mem_append_left _ h3)
          · exact Or.inr (Or.inl h3)
          · rw [hg] at h3; cases h3.1
    · simp only [hl, if_false, not_false_iff, decide_true, if_true]
      cases hC : s.C with
      | nil =>
        rw [hC] at hl
        exact absurd hl (by simp; omega)
      | cons o T =>
        have hc := h.c
        rw [hC] at hc
        match kc, hc, h with
        | [], hc, h => exact hc.elim
        | k0 :: kt, hc, h =>
          obtain ⟨⟨hk0, _⟩, hct⟩ := hc
          have hpw := (List.pairwise_append.1 h.asc)
          have hlt := h.lt
          refine ⟨kt ++ [r], h.nd, h.rng, hr, fun _ => hBt, fun e => ?_, hsq, h.w, SOuts.sn (o := (x.id, pkB (tellP s.rw x.pk f))) hct hnew, ?_, ?_, fun k hk => ?_, h.ra, fun y hy => h.rb y (by rw [eB]; exact List.mem_cons_of_mem _ hy)⟩
          · have e : s.gone = true := e
            rw [hg] at e; cases e
          · rw [← List.append_assoc]
            refine List.pairwise_append.2 ⟨h.asc.sublist (List.Sublist.append_left (List.sublist_cons_self _ _) _), by simp, fun a ha b hb => ?_⟩
            obtain rfl := List.mem_singleton.1 hb
            exact hlt a (by rcases List.mem_append.1 ha with ha | ha; exact List.mem_append_left _ ha; exact List.mem_append_right _ (List.mem_cons_of_mem _ ha))
          · intro k hk
            rw [← List.append_assoc] at hk
            rcases List.mem_append.1 hk with hk | hk
            · have := hlt k (by rcases List.mem_append.1 hk with hk | hk; exact List.mem_append_left _ hk; exact List.mem_append_right _ (List.mem_cons_of_mem _ hk))
              omega
            · obtain rfl := List.mem_singleton.1 hk
              omega
          · by_cases hkr : k = r
            · subst hkr
              exact Or.inl (by simp)
            · rcases h.all k (by omega) with h3 | h3 | h3
              · rcases List.mem_append.1 h3 with h3 | h3
                · exact Or.inl (List.mem_append_left _ h3)
                · rcases List.mem_cons.1 h3 with rfl | h3
                  · refine Or.inr (Or.inl ?_)
                    rw [List.getD_eq_getElem?_getD, hk0]
                    simp
                  · exact Or.inl (List.mem_append_right _ (List.mem_append_left _ h3))
              · exact Or.inr (Or.inl (List.mem_append_left _ h3))
              · rw [hg] at h3; cases h3.1
theorem SInv.write (h : SInv sq0 s Q r p D kw kc) (acc : Bool) : ∃ kw' kc', SInv sq0 (writeP s acc).1 Q r p D kw' kc' := by
  rcases writeP_eq s acc with ⟨_, e⟩ | ⟨o, C, eC, ⟨ho, e⟩ | ⟨ha, hg, hbb, e⟩⟩
  · rw [e]; exact ⟨kw, kc, h⟩
  · rw [e]
    have hgo : (offerP s acc).2.1 = s.gone := by
      unfold offerP at ho ⊢
      cases hg : s.gone with
      | true => simp
      | false =>
        cases acc with
        | true => simp
        | false =>
          rw [hg] at ho
          simpa using ho
    have hg : s.gone = false := by
      cases hg : s.gone with
      | false => rfl
      | true => have := (h.dead hg).2.2; rw [eC] at this; cases this
    have hc := h.c
    rw [eC] at hc
    cases acc with
    | false =>
      refine ⟨kw, kc, h.nd, h.rng, h.le, fun _ => h.b hg, fun e => ?_, h.sq, h.w, hc, h.asc, h.lt, fun k hk => ?_, h.ra, h.rb⟩
      · have e : (offerP s false).2.1 = true := e
        rw [hgo, hg] at e; cases e
      · rcases h.all k hk with h3 | h3 | h3
        · exact Or.inl h3
        · exact Or.inr (Or.inl h3)
        · rw [hg] at h3; cases h3.1
    | true =>
      match kc, hc, h with
      | [], hc, h => exact hc.elim
      | k0 :: kt, hc, h =>
        obtain ⟨hk0, hct⟩ := hc
        refine ⟨kw ++ [k0], kt, h.nd, h.rng, h.le, fun _ => h.b hg, fun e => ?_, h.sq, SOuts.sn h.w hk0, hct, by simpa using h.asc, fun k hk => h.lt k (by simpa using hk), fun k hk => ?_, h.ra, h.rb⟩
        · have e : (offerP s true).2.1 = true := e
          rw [hgo, hg] at e; cases e
        · rcases h.all k hk with h3 | h3 | h3
          · exact Or.inl (by simpa using h3)
          · exact Or.inr (Or.inl h3)
          · rw [hg] at h3; cases h3.1
  · rw [e]
    refine ⟨kw, [], (h.nd).sublist (by simp), fun i hi => h.rng i (by simp at hi; simp [hi]), h.le, fun e => ?_, fun _ => ⟨rfl, rfl, rfl⟩, h.sq, h.w, trivial, ?_, fun k hk => h.lt k (by simp at hk; simp [hk]), fun k hk => ?_, fun x hx => by simp at hx, fun x hx => by simp at hx⟩
    · have e : (offerP s acc).2.1 = false := e
      rw [hbb] at e; cases e
    · simpa using (List.pairwise_append.1 h.asc).1
    · rcases h.all k hk with h3 | h3 | h3
      · rcases List.mem_append.1 h3 with h3 | h3
        · exact Or.inl (by simpa using h3)
        · exact Or.inr (Or.inr ⟨hbb, fun k' hk' => (List.pairwise_append.1 h.asc).2.2 k' hk' k h3⟩)
      · exact Or.inr (Or.inl h3)
      · rw [hg] at h3; cases h3.1
theorem SInv.want (h : SInv sq0 s Q r p D kw kc) (n : Int) : SInv sq0 (wantP s n).1 Q r p D kw kc := by
  rcases wantP_eq s n with e | ⟨_, e⟩
  · rw [e]; exact h
  · rw [e]; exact ⟨h.nd, h.rng, h.le, h.b, h.dead, h.sq, h.w, h.c, h.asc, h.lt, h.all, h.ra, h.rb⟩
theorem SInv.put (h : SInv sq0 s Q r p D kw kc) (x : ItS) (hx : x.id = (p : Int)) (hk : PkOK x.pk) : SInv sq0 (putP s x).1 Q r (if (putP s x).2.2.2 == 0 then p + 1 else p) D kw kc := by
  rcases putP_eq s x with ⟨e1, e2, _⟩ | ⟨hg, hw, hr, _, e2, e1, _⟩
  · rw [e1, if_neg (by simpa using e2)]; exact h
  · rw [e2, if_pos (show ((0 : Int) == 0) = true from rfl), e1]
    have hsub : ((if s.A.length < s.room then s.A ++ [x] else s.A.tail ++ [x]).map (·.id)).Sublist (s.A.map (·.id) ++ [x.id]) := by
      split
      · simp
      · rw [List.map_append]
        exact List.Sublist.append_right ((List.tail_sublist s.A).map _) _
    have hnd : (Q ++ (s.A.map (·.id) ++ [x.id])).Nodup := by
      rw [← List.append_assoc]
      refine List.nodup_append.2 ⟨h.nd, by simp, fun a ha b hb e => ?_⟩
      obtain rfl := List.mem_singleton.1 hb
      have := h.rng a ha
      omega
    have hrng : ∀ i ∈ Q ++ (s.A.map (·.id) ++ [x.id]), 0 ≤ i ∧ i < ((p + 1 : Nat) : Int) := fun i hi => by
      rw [← List.append_assoc] at hi
      rcases List.mem_append.1 hi with hi | hi
      · have := h.rng i hi; omega
      · obtain rfl := List.mem_singleton.1 hi
        omega
    have hs2 := List.Sublist.append_left hsub Q
    refine ⟨hnd.sublist hs2, fun i hi => hrng i (hs2.subset hi), h.le, h.b, fun e => ?_, h.sq, h.w, h.c, h.asc, h.lt, h.all, fun y hy => ?_, h.rb⟩
    · have e : s.gone = true := e
      rw [hg] at e; cases e
    · simp only at hy
      split at hy
      · rcases List.mem_append.1 hy with hy | hy
        · exact h.ra y hy
        · obtain rfl := List.mem_singleton.1 hy
          exact ⟨hr, hk⟩
      · rcases List.mem_append.1 hy with hy | hy
        · exact h.ra y (mem_tail hy)
        · obtain rfl := List.mem_singleton.1 hy
          exact ⟨hr, hk⟩
/-- The m-th thing that was written, among all that passed. -/
theorem SOuts.at {l : List (Int × List Int)} : ∀ {ks : List Nat} (_ : SOuts sq0 Q l ks) (m : Nat) (hm : m < l.length), ∃ k, ks[m]? = some k ∧ Q[k]? = some (l[m]).1 ∧ ∃ q : Pk, (l[m]).2 = pkB q ∧ q.sq = (sq0 + (k : Int)) % 65536 ∧ rightH q = true ∧ PkOK q := by
  induction l with
  | nil => intro ks h m hm; simp at hm
  | cons o l ih =>
    intro ks h m hm
    match ks, h with
    | [], h => exact h.elim
    | k0 :: kt, h =>
      obtain ⟨h0, ht⟩ := h
      match m, hm with
      | 0, _ => exact ⟨k0, rfl, h0⟩
      | m + 1, hm => exact ih (ks := kt) ht m (by simpa using hm)
theorem SInv.gap (h : SInv sq0 s Q r p D kw kc) {m k a : Nat} (hm : m < s.W.length) (hk : kw[m]? = some k) (hQ : Q[k]? = some (s.W[m]).1) (hp : ∀ i k', i < m → kw[i]? = some k' → k' < a) (ha : a < k) : Q.getD a 0 ∈ D ∧ Q.getD a 0 ≠ (s.W[m]).1 := by
  have hkm : k ∈ kw := List.mem_of_getElem? hk
  have hkr := h.lt k (List.mem_append_left _ hkm)
  have hpw := List.pairwise_append.1 h.asc
  constructor
  · rcases h.all a (by omega) with h3 | h3 | h3
    · exfalso
      rcases List.mem_append.1 h3 with h3 | h3
      · obtain ⟨i, hi, e⟩ := List.mem_iff_getElem.1 h3
        obtain ⟨hm', e2⟩ := List.getElem?_eq_some_iff.1 hk
        rcases Nat.lt_trichotomy i m with hlt | rfl | hgt
        · have := hp i a hlt (by rw [List.getElem?_eq_getElem hi, e]); omega
        · omega
        · have := List.pairwise_iff_getElem.1 hpw.1 m i hm' hi hgt
          omega
      · have := hpw.2.2 k hkm a h3
        omega
    · exact h3
    · have := h3.2 k hkm
      omega
  · intro e
    have hnd := (List.nodup_append.1 h.nd).1
    obtain ⟨hkl, ek⟩ := List.getElem?_eq_some_iff.1 hQ
    have hal : a < Q.length := by omega
    rw [List.getD_eq_getElem?_getD, List.getElem?_eq_getElem hal] at e
    simp only [Option.getD_some] at e
    exact List.pairwise_iff_getElem.1 hnd a k hal hkl ha (by rw [e, ek])
end
end Go.Proofs.Ytdgmmffedhikcaa
/- Descriptions: the plain law. -/
namespace Go.Proofs.Ytdgmmffedhikcaa
set_option linter.unusedSimpArgs false
set_option linter.unusedVariables false
open Go.RowKit
set_option maxRecDepth 100000

/-- A description. -/
structure Ds where
  lo : Bool
  st : Bool
  pt : Int
  pic : Int
  wd : Bool
  bs : Int
  tr : Int
  sy : Bool
  ky : Int
def ds0 : Ds := ⟨false, false, 0, 0, false, 0, 0, false, 0⟩
def rightD (d : Ds) : Bool :=
  decide (d.pt ≤ 7) && (decide (-1 ≤ d.pic) && decide (d.pic ≤ if d.wd then 32767 else 127)) && (decide (-1 ≤ d.bs) && decide (d.bs ≤ 255)) && (decide (-1 ≤ d.tr) && decide (d.tr ≤ 3)) && (decide (-1 ≤ d.ky) && decide (d.ky ≤ 31)) && !(d.wd && decide (d.pic = -1)) && !(d.sy && decide (d.tr = -1))
theorem rightD_iff (d : Ds) : rightD d = true ↔ d.pt ≤ 7 ∧ (-1 ≤ d.pic ∧ d.pic ≤ if d.wd then 32767 else 127) ∧ (-1 ≤ d.bs ∧ d.bs ≤ 255) ∧ (-1 ≤ d.tr ∧ d.tr ≤ 3) ∧ (-1 ≤ d.ky ∧ d.ky ≤ 31) ∧ (d.wd = true → d.pic ≠ -1) ∧ (d.sy = true → d.tr ≠ -1) := by
  unfold rightD
  cases d.wd <;> cases d.sy <;> simp [and_assoc]
def b1 (b : Bool) (n : Int) : Int := if b then n else 0
/-- Which numbers are told. -/
def toldD (d : Ds) : Int := b1 (decide (d.pic ≠ -1)) 128 + b1 (decide (d.bs ≠ -1)) 64 + b1 (decide (d.tr ≠ -1)) 32 + b1 (decide (d.ky ≠ -1)) 16
def oneD (d : Ds) : Int := d.pt + b1 (decide (toldD d ≠ 0)) 128 + b1 d.lo 32 + b1 d.st 16
def lastD (d : Ds) : Int := 64 * max 0 d.tr + max 0 d.ky + b1 d.sy 32
def dsB (d : Ds) : List Int :=
  bysA (oneD d) 1 ++ (if toldD d ≠ 0 then bysA (toldD d) 1 else []) ++ (if d.wd then bysA (32768 + d.pic) 2 else if d.pic ≠ -1 then bysA d.pic 1 else []) ++ (if d.bs ≠ -1 then bysA d.bs 1 else []) ++ (if d.tr ≠ -1 ∨ d.ky ≠ -1 then bysA (lastD d) 1 else [])
def writeD (d : Ds) : List Int × Int := if rightD d then (dsB d, 0) else ([], 1)

def nB (s : RdS) : Int := num (tkB s.1 1)
def bit (n k : Int) : Bool := decide (n / k % 2 = 1)
/-- Which numbers are told; behind the first two bytes. -/
def headD (s : RdS) : Int × Int × RdS := if bit (nB s) 128 then (nB s, nB (tkS s 1), tkS (tkS s 1) 1) else (nB s, 0, tkS s 1)
def picD (t : Int) (s : RdS) : (Int × Bool) × RdS := if bit t 128 then (if nB s < 128 then ((nB s, false), tkS s 1) else (((nB s - 128) * 256 + nB (tkS s 1), true), tkS (tkS s 1) 1)) else ((-1, false), s)
def basD (t : Int) (s : RdS) : Int × RdS := if bit t 64 then (nB s, tkS s 1) else (-1, s)
def bothD (t : Int) (s : RdS) : Int × RdS := if bit t 32 || bit t 16 then (nB s, tkS s 1) else (0, s)
def mkD (f t : Int) (p : Int × Bool) (b q : Int) : Ds := ⟨bit f 32, bit f 16, f % 8, p.1, p.2, b, if bit t 32 then q / 64 else -1, bit t 32 && bit q 32, if bit t 16 then q % 32 else -1⟩
def restD (f t : Int) (s : RdS) : Ds × RdS :=
  (mkD f t (picD t s).1 (basD t (picD t s).2).1 (bothD t (basD t (picD t s).2).2).1, (bothD t (basD t (picD t s).2).2).2)
def endD (n : Int) (x : Ds × RdS) : Ds × Int × Int := if x.2.2 = 3 then (ds0, 0, 3) else (x.1, n - x.2.1.length, 0)
def readD (b : List Int) : Ds × Int × Int := endD b.length (restD (headD (b, 0)).1 (headD (b, 0)).2.1 (headD (b, 0)).2.2)
/-- Does a payload begin a keyframe? -/
def beginsD (b : List Int) : Bool :=
  decide ((readD b).2.2 = 0) && (readD b).1.st && decide ((readD b).1.pt = 0) && decide ((readD b).2.1 < b.length) && decide (b.getD (readD b).2.1.toNat 0 % 2 = 0)
end Go.Proofs.Ytdgmmffedhikcaa
/- Bytes: bits that are asked, and laid. -/
namespace Go.Proofs.Ytdgmmffedhikcaa
set_option linter.unusedSimpArgs false
set_option linter.unusedVariables false
open Go.RowKit
set_option maxRecDepth 100000

theorem orB : ∀ m : Fin 256, ((m.val : Int) / 128 % 2 = 0 → bits .or .u8 (m.val : Int) 128 = (m.val : Int) + 128) ∧ ((m.val : Int) / 64 % 2 = 0 → bits .or .u8 (m.val : Int) 64 = (m.val : Int) + 64) ∧ ((m.val : Int) / 32 % 2 = 0 → bits .or .u8 (m.val : Int) 32 = (m.val : Int) + 32) ∧ ((m.val : Int) / 16 % 2 = 0 → bits .or .u8 (m.val : Int) 16 = (m.val : Int) + 16) := of_decide_eq_true (by kernel_rfl)
theorem orB' {x : Int} (h : 0 ≤ x ∧ x ≤ 255) : (x / 128 % 2 = 0 → bits .or .u8 x 128 = x + 128) ∧ (x / 64 % 2 = 0 → bits .or .u8 x 64 = x + 64) ∧ (x / 32 % 2 = 0 → bits .or .u8 x 32 = x + 32) ∧ (x / 16 % 2 = 0 → bits .or .u8 x 16 = x + 16) := by
  obtain ⟨m, rfl⟩ := Int.eq_ofNat_of_zero_le h.1
  exact orB ⟨m, by omega⟩
theorem andB : ∀ m : Fin 256, (bits .and .u8 (m.val : Int) 128 = if bit (m.val : Int) 128 then 128 else 0) ∧ (bits .and .u8 (m.val : Int) 64 = if bit (m.val : Int) 64 then 64 else 0) ∧ (bits .and .u8 (m.val : Int) 32 = if bit (m.val : Int) 32 then 32 else 0) ∧ (bits .and .u8 (m.val : Int) 16 = if bit (m.val : Int) 16 then 16 else 0) ∧ bits .and .u8 (m.val : Int) 7 = (m.val : Int) % 8 ∧ ((bits .and .u8 (m.val : Int) 48 != 0) = (bit (m.val : Int) 32 || bit (m.val : Int) 16)) := of_decide_eq_true (by kernel_rfl)
theorem andB' {x : Int} (h : 0 ≤ x ∧ x ≤ 255) : (bits .and .u8 x 128 = if bit x 128 then 128 else 0) ∧ (bits .and .u8 x 64 = if bit x 64 then 64 else 0) ∧ (bits .and .u8 x 32 = if bit x 32 then 32 else 0) ∧ (bits .and .u8 x 16 = if bit x 16 then 16 else 0) ∧ bits .and .u8 x 7 = x % 8 ∧ ((bits .and .u8 x 48 != 0) = (bit x 32 || bit x 16)) := by
  obtain ⟨m, rfl⟩ := Int.eq_ofNat_of_zero_le h.1
  exact andB ⟨m, by omega⟩
theorem andB2 : ∀ m : Fin 256, ((bits .and .u8 (m.val : Int) 128 != 0) = bit (m.val : Int) 128) ∧ ((bits .and .u8 (m.val : Int) 64 != 0) = bit (m.val : Int) 64) ∧ ((bits .and .u8 (m.val : Int) 32 != 0) = bit (m.val : Int) 32) ∧ ((bits .and .u8 (m.val : Int) 16 != 0) = bit (m.val : Int) 16) := of_decide_eq_true (by kernel_rfl)
theorem andB2' {x : Int} (h : 0 ≤ x ∧ x ≤ 255) : ((bits .and .u8 x 128 != 0) = bit x 128) ∧ ((bits .and .u8 x 64 != 0) = bit x 64) ∧ ((bits .and .u8 x 32 != 0) = bit x 32) ∧ ((bits .and .u8 x 16 != 0) = bit x 16) := by
  obtain ⟨m, rfl⟩ := Int.eq_ofNat_of_zero_le h.1
  exact andB2 ⟨m, by omega⟩
end Go.Proofs.Ytdgmmffedhikcaa
