/- Merged from my texts CompN. -/
import Derived.Test.YtlnikmcimmnbmaaMg40
/- A whole slice of structs appended to a row of the call's own. -/
namespace Go.Proofs.Ytlnikmcimmnbmaa
set_option linter.unusedSimpArgs false
set_option linter.unusedVariables false
open Go.RowKit

theorem pickList {α : Type} (d : α) (p : Nat → α → Prop) : ∀ m, (∀ i, i < m → ∃ c, p i c) → ∃ l : List α, l.length = m ∧ ∀ i, i < m → p i (l.getD i d)
  | 0, _ => ⟨[], rfl, fun i hi => absurd hi (by omega)⟩
  | m + 1, h => by
    obtain ⟨l, hl, hp⟩ := pickList d p m fun i hi => h i (by omega)
    obtain ⟨c, hc⟩ := h m (by omega)
    refine ⟨l ++ [c], by simp [hl], fun i hi => ?_⟩
    by_cases e : i < m
    · have := hp i e
      rw [List.getD_eq_getElem?_getD] at this ⊢
      rw [List.getElem?_append_left (by omega)]
      exact this
    · obtain rfl : i = m := by omega
      rw [List.getD_eq_getElem?_getD, List.getElem?_append_right (by omega), hl]
      simpa using hc
theorem flat_len {n : Nat} : ∀ (css : List (List Value)), (∀ c ∈ css, c.length = n) → css.flatten.length = css.length * n
  | [], _ => by simp
  | c :: css, h => by
    rw [List.flatten_cons, List.length_append, flat_len css fun d hd => h d (by simp [hd]), h c (by simp), List.length_cons, Nat.add_mul]
    omega
theorem wpList_unguard {P : Program} {ops : Array Oper} {rest : List Oper} {o : Oper} {a : Act} {w : World} {Q : Exit → Act → World → Prop} (hw : Region.wanted o (yielded ops a.tmps) = true)
    (h : wpList P ops Q ({o with guard := none} :: rest) a w) : wpList P ops Q (o :: rest) a w := by
  unfold wpList at h ⊢
  rw [if_pos hw]
  rw [if_pos (by unfold Region.wanted; rfl)] at h
  exact h
/-- append(s, x...): s is a row of structs of the call's own, x came before it. -/
theorem wpList_append_rows {P : Program} (w0 w : World) {ops : Array Oper} {rest : List Oper} {o : Oper} {a : Act} {Q : Exit → Act → World → Prop} (hgd : o.guard = none) (s x : Operand) (t : TypeId)
    (ho : o.op = .call { callee := .builtin .append, args := #[s, x], argTypes := #[t, t] })
    (base : Nat) (e : TypeId) (i : TypeInfo) (z : Value) (n bytes : Nat) (ht : P.underlying t = some (.slice e)) (hi : P.info? e = some i) (hz : i.zero = some z)
    (hsize : i.size = n) (hby : i.bytes = bytes) (hzs : z.cells.size = n) (hn : 0 < n)
    {α : Type} {R : Reader α} (hR : Keeps R) (hone : ∀ w cs y, R w cs y → ∀ u ∈ cs, u.oneCell' = true)
    (v : Value) (L : List α) (hs : a.eval s = v) (hown : RowP n R (fun _ => False) w base e v L)
    (vx : Value) (M : List α) (hx : a.eval x = vx) (hl : SlP n R w0 vx M) (hm : More w0 w) (hv : ∀ b, v.ownBlock = some b → w0.heap.size ≤ b)
    (hby1 : 1 ≤ bytes) (hbytes : (L.length + M.length) * bytes ≤ 140737488355328) (hbase : base ≤ w.heap.size)
    (h : ∀ v' w', RowP n R (fun _ => False) w' base e v' (L ++ M) → w.grownBy w' v.ownBlock → (v'.ownBlock = v.ownBlock ∨ v'.ownBlock = some w.heap.size) → wpList P ops Q rest (a.put o.dst v') w') : wpList P ops Q (o :: rest) a w := by
  have h63 : L.length + M.length ≤ maxLen := by
    have := Nat.le_mul_of_pos_right (L.length + M.length) (show 0 < bytes by omega)
    unfold maxLen; omega
  obtain ⟨oa, cap, rfl, hl1, hl2, hl3, hl4, hl5⟩ := hl
  obtain ⟨⟨xs, hr, he⟩, hap⟩ := id hown
  cases oa with
  | none =>
    have h0 : cap = 0 := hl5 rfl
    subst h0
    have hnM : M = [] := List.eq_nil_of_length_eq_zero (by omega)
    subst hnM
    refine wpList_append_own_none hgd s x t ho base e i n ht hi v L.length xs hs hr hx ?_
    exact h v w (by simpa using hown) ⟨rfl, rfl, rfl, Nat.le_refl _, fun _ _ _ => rfl⟩ (Or.inl rfl)
  | some ad =>
    obtain ⟨css, hcl, hcp⟩ := pickList ([] : List Value) (fun k cs => ∀ hk : k < M.length, ∃ b off, ad = ⟨b, off, none⟩ ∧ b < w0.heap.size ∧ cs.length = n ∧ (∀ j, j < n → w0.cell? ⟨b, off + k * n + j, none⟩ = cs[j]?) ∧ R w0 cs M[k]) M.length (fun k hk => by
      obtain ⟨b, off, cs, e1, h1, h2, h3, h4⟩ := hl2 k hk
      exact ⟨cs, fun _ => ⟨b, off, by injection e1, h1, h2, h3, h4⟩⟩)
    have hlen : ∀ c ∈ css, c.length = n := fun c hc => by
      obtain ⟨k, hk, rfl⟩ := List.mem_iff_getElem.1 hc
      obtain ⟨_, _, _, _, h2, _⟩ := hcp k (by omega) (by omega)
      rw [List.getD_eq_getElem?_getD, List.getElem?_eq_getElem hk] at h2
      exact h2
    have hfl : css.flatten.length = M.length * n := by rw [flat_len css hlen, hcl]
    have hat2 : ∀ k j, k < M.length → j < n → css.flatten[k * n + j]? = (css.getD k [])[j]? := fun k j hk hj => flat_get css k j hlen (by omega) hj
    refine wpList_append_own_at w hgd s x t ho base e i z n bytes ht hi hz hsize hby hzs hn v L.length xs hs hr ad M.length cap css.flatten hx hfl ?_ ?_ h63 hbytes hbase ?_
    · intro j u hj
      have hjl : j < M.length * n := by rw [← hfl]; exact (List.getElem?_eq_some_iff.1 hj).1
      have hq : j / n < M.length := by rw [Nat.div_lt_iff_lt_mul hn]; exact hjl
      have hrm : j % n < n := Nat.mod_lt _ hn
      have ej : j / n * n + j % n = j := by rw [Nat.mul_comm]; exact Nat.div_add_mod j n
      obtain ⟨b, off, rfl, hb, _, hc, _⟩ := hcp _ hq hq
      have ea : (⟨b, off, none⟩ : Addr).add j = ⟨b, off + j, none⟩ := by
        unfold Addr.add; split
        · rename_i h0; subst h0; rfl
        · rfl
      rw [ea, hm.cells b _ hb, show off + j = off + j / n * n + j % n by omega, hc _ hrm, ← hat2 _ _ hq hrm, ej]
      exact hj
    · intro u hu
      obtain ⟨c, hc, huc⟩ := List.mem_flatten.1 hu
      obtain ⟨k, hk, rfl⟩ := List.mem_iff_getElem.1 hc
      obtain ⟨_, _, _, _, _, _, h4⟩ := hcp k (by omega) (by omega)
      rw [List.getD_eq_getElem?_getD, List.getElem?_eq_getElem hk] at h4
      exact hone _ _ _ h4 u huc
    · intro v' w' ho' hg _ hat
      have hcells : ∀ k (hk : k < (L ++ M).length), RdOff R (fun k => False ∨ v.ownBlock = some k) w (((xs ++ css.flatten).drop (k * n)).take n) (L ++ M)[k] := by
        intro k hk
        rw [List.length_append] at hk
        by_cases e : k < L.length
        · have hin : k * n + n ≤ L.length * n := by
            have : (k + 1) * n ≤ L.length * n := Nat.mul_le_mul_right n e
            rw [Nat.add_mul, Nat.one_mul] at this; exact this
          have hxl := hr.1
          have e2 : ((xs ++ css.flatten).drop (k * n)).take n = (xs.drop (k * n)).take n := by
            rw [List.drop_append_of_le_length (by omega), List.take_append_of_le_length (by rw [List.length_drop]; omega)]
          rw [e2, List.getElem_append_left e]
          exact he k e
        · have hk2 : k - L.length < M.length := by omega
          obtain ⟨_, _, _, _, h2, _, h4⟩ := hcp _ hk2 hk2
          have e2 : ((xs ++ css.flatten).drop (k * n)).take n = css.getD (k - L.length) [] := by
            apply List.ext_getElem?
            intro j
            rw [List.getElem?_take]
            split
            · rename_i hj
              rw [List.getElem?_drop, ← hat2 _ _ hk2 hj, List.getElem?_append_right (by rw [hr.1]; have := Nat.mul_le_mul_right n (show L.length ≤ k by omega); omega), hr.1]
              congr 1
              rw [Nat.sub_mul]
              have := Nat.mul_le_mul_right n (show L.length ≤ k by omega)
              omega
            · rename_i hj
              exact (List.getElem?_eq_none_iff.2 (by omega)).symm
          rw [e2, List.getElem_append_right (by omega)]
          exact (RdOff.old hR h4 (fun b hb => by rcases hb with hb | hb; exact absurd hb id; exact hv b hb)).on hm
      refine h v' w' ⟨⟨xs ++ css.flatten, by rw [List.length_append]; exact ho', fun k hk w'' a' => ?_⟩, fun _ _ => id⟩ hg hat
      refine hcells k hk w'' ⟨a'.os.trans hg.os, a'.tape.trans hg.tape, a'.output.trans hg.output, Nat.le_trans hg.size a'.size, fun b hb hs => ?_⟩
      rw [a'.block b (Nat.lt_of_lt_of_le hb hg.size) ?_]
      · exact hg.block b hb (fun e => hs (Or.inr e.symm))
      · rintro (hb2 | hb2)
        · exact hs (Or.inl hb2)
        · rcases hat with hat | hat
          · exact hs (Or.inr (by rw [← hat]; exact hb2))
          · rw [hat] at hb2
            have : w.heap.size = b := by injection hb2
            omega
theorem itm_one : ∀ (w : World) (cs : List Value) (y : Itm), RItm w cs y → ∀ u ∈ cs, u.oneCell' = true := by
  rintro w cs y ⟨vb, va, vl, vo, rfl, hs, hk⟩ u hu
  obtain ⟨ob, cb, rfl, _⟩ := id hs.bl
  obtain ⟨oc, cc, rfl, _⟩ := id hs.ms.asks
  obtain ⟨od, cd, rfl, _⟩ := id hs.ms.lost
  obtain ⟨oe, ce, rfl, _⟩ := id hs.bo
  simp only [itmC, List.mem_cons, List.mem_nil_iff, or_false] at hu
  rcases hu with rfl | rfl | rfl | rfl | rfl | rfl | rfl | rfl | rfl | rfl | rfl | rfl | rfl | rfl | rfl | rfl | rfl <;> rfl
end Go.Proofs.Ytlnikmcimmnbmaa
