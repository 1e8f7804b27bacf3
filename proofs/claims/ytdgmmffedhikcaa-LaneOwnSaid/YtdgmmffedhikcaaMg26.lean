/- Merged from my texts RowT, LaneWr. -/
import Derived.Test.YtdgmmffedhikcaaMg7
import Derived.Test.YtdgmmffedhikcaaMg25
import Derived.Test.YtdgmmffedhikcaaMg11
import Derived.Lib.SliceRun
/- A whole slice of structs appended to a row of the call's own. -/
namespace Go.Proofs.Ytdgmmffedhikcaa
set_option linter.unusedSimpArgs false
set_option linter.unusedVariables false
open Go.RowKit
set_option maxRecDepth 100000

theorem rt_pickList {α : Type} (d : α) (p : Nat → α → Prop) : ∀ m, (∀ i, i < m → ∃ c, p i c) → ∃ l : List α, l.length = m ∧ ∀ i, i < m → p i (l.getD i d)
  | 0, _ => ⟨[], rfl, fun i hi => absurd hi (by omega)⟩
  | m + 1, h => by
    obtain ⟨l, hl, hp⟩ := rt_pickList d p m fun i hi => h i (by omega)
    obtain ⟨c, hc⟩ := h m (by omega)
    refine ⟨l ++ [c], by simp [hl], fun i hi => ?_⟩
    by_cases e : i < m
    · have := hp i e
      rw [List.getD_eq_getElem?_getD] at this ⊢
      rw [List.getElem?_append_left (by omega)]
      exact this
    · obtain rfl : i = m := by omega
      rw [List.getD_eq_getElem?_getD, List.getElem?_append_right (by omega), hl]
      simpa using hc
theorem rt_flat_len {n : Nat} : ∀ (css : List (List Value)), (∀ c ∈ css, c.length = n) → css.flatten.length = css.length * n
  | [], _ => by simp
  | c :: css, h => by
    rw [List.flatten_cons, List.length_append, rt_flat_len css fun d hd => h d (by simp [hd]), h c (by simp), List.length_cons, Nat.add_mul]
    omega
theorem rt_flat_get {n : Nat} : ∀ (css : List (List Value)) (i j : Nat), (∀ c ∈ css, c.length = n) → i < css.length → j < n → css.flatten[i * n + j]? = (css.getD i [])[j]?
  | [], _, _, _, h, _ => absurd h (by simp)
  | c :: css, 0, j, hl, _, hj => by
    have := hl c (by simp)
    rw [List.flatten_cons, Nat.zero_mul, Nat.zero_add, List.getElem?_append_left (by omega)]
    rfl
  | c :: css, i + 1, j, hl, hi, hj => by
    have h1 := hl c (by simp)
    rw [List.flatten_cons, List.getElem?_append_right (by rw [h1, Nat.add_mul]; omega), h1, show (i + 1) * n + j - n = i * n + j by rw [Nat.add_mul]; omega]
    exact rt_flat_get css i j (fun d hd => hl d (by simp [hd])) (by simpa using hi) hj
/-- append(s, x...): s is a row of structs of the call's own, x came before it. -/
theorem rt_wpList_append_rows {P : Program} (w0 w : World) {ops : Array Oper} {rest : List Oper} {o : Oper} {a : Act} {Q : Exit → Act → World → Prop} (hgd : o.guard = none) (s x : Operand) (t : TypeId)
    (ho : o.op = .call { callee := .builtin .append, args := #[s, x], argTypes := #[t, t] })
    (base : Nat) (e : TypeId) (i : TypeInfo) (z : Value) (n bytes : Nat) (ht : P.underlying t = some (.slice e)) (hi : P.info? e = some i) (hz : i.zero = some z)
    (hsize : i.size = n) (hby : i.bytes = bytes) (hzs : z.cells.size = n) (hn : 0 < n)
    {α : Type} {R : Reader α} (hR : Keeps R) (hone : ∀ w cs y, R w cs y → ∀ u ∈ cs, u.oneCell' = true)
    (v : Value) (L : List α) (hs : a.eval s = v) (hown : RowP n R (fun _ => False) w base e v L)
    (vx : Value) (M : List α) (hx : a.eval x = vx) (hl : SlP n R w0 vx M) (hm : More w0 w) (hv : ∀ b, v.ownBlock = some b → w0.heap.size ≤ b)
    (hby1 : 1 ≤ bytes) (hbytes : (L.length + M.length) * bytes ≤ 140737488355328) (hbase : base ≤ w.heap.size)
    (h : ∀ v' w', RowP n R (fun _ => False) w' base e v' (L ++ M) → w.grownBy w' v.ownBlock → (v'.ownBlock = v.ownBlock ∨ v'.ownBlock = some w.heap.size) → wpList P ops Q rest (a.put o.dst v') w') : wpList P ops Q (o :: rest) a w := by
  have h63 : L.length + M.length ≤ maxLen := by
    have := Nat.le_mul_of_pos_right (L.length + M.length) (show 0 < bytes by omega)
    unfold maxLen; omega
  obtain ⟨oa, cap, rfl, hl1, hl2, hl3, hl4, hl5⟩ := hl
  obtain ⟨⟨xs, hr, he⟩, hap⟩ := id hown
  cases oa with
  | none =>
    have h0 : cap = 0 := hl5 rfl
    subst h0
    have hnM : M = [] := List.eq_nil_of_length_eq_zero (by omega)
    subst hnM
    refine wpList_append_own_none hgd s x t ho base e i n ht hi v L.length xs hs hr hx ?_
    exact h v w (by simpa using hown) ⟨rfl, rfl, rfl, Nat.le_refl _, fun _ _ _ => rfl⟩ (Or.inl rfl)
  | some ad =>
    obtain ⟨css, hcl, hcp⟩ := rt_pickList ([] : List Value) (fun k cs => ∀ hk : k < M.length, ∃ b off, ad = ⟨b, off, none⟩ ∧ b < w0.heap.size ∧ cs.length = n ∧ (∀ j, j < n → w0.cell? ⟨b, off + k * n + j, none⟩ = cs[j]?) ∧ R w0 cs M[k]) M.length (fun k hk => by
      obtain ⟨b, off, cs, e1, h1, h2, h3, h4⟩ := hl2 k hk
      exact ⟨cs, fun _ => ⟨b, off, by injection e1, h1, h2, h3, h4⟩⟩)
    have hlen : ∀ c ∈ css, c.length = n := fun c hc => by
      obtain ⟨k, hk, rfl⟩ := List.mem_iff_getElem.1 hc
      obtain ⟨_, _, _, _, h2, _⟩ := hcp k (by omega) (by omega)
      rw [List.getD_eq_getElem?_getD, List.getElem?_eq_getElem hk] at h2
      exact h2
    have hfl : css.flatten.length = M.length * n := by rw [rt_flat_len css hlen, hcl]
    have hat2 : ∀ k j, k < M.length → j < n → css.flatten[k * n + j]? = (css.getD k [])[j]? := fun k j hk hj => rt_flat_get css k j hlen (by omega) hj
    refine wpList_append_own_at w hgd s x t ho base e i z n bytes ht hi hz hsize hby hzs hn v L.length xs hs hr ad M.length cap css.flatten hx hfl ?_ ?_ h63 hbytes hbase ?_
    · intro j u hj
      have hjl : j < M.length * n := by rw [← hfl]; exact (List.getElem?_eq_some_iff.1 hj).1
      have hq : j / n < M.length := by rw [Nat.div_lt_iff_lt_mul hn]; exact hjl
      have hrm : j % n < n := Nat.mod_lt _ hn
      have ej : j / n * n + j % n = j := by rw [Nat.mul_comm]; exact Nat.div_add_mod j n
      obtain ⟨b, off, rfl, hb, _, hc, _⟩ := hcp _ hq hq
      have ea : (⟨b, off, none⟩ : Addr).add j = ⟨b, off + j, none⟩ := by
        unfold Addr.add; split
        · rename_i h0; subst h0; rfl
        · rfl
      rw [ea, hm.cells b _ hb, show off + j = off + j / n * n + j % n by omega, hc _ hrm, ← hat2 _ _ hq hrm, ej]
      exact hj
    · intro u hu
      obtain ⟨c, hc, huc⟩ := List.mem_flatten.1 hu
      obtain ⟨k, hk, rfl⟩ := List.mem_iff_getElem.1 hc
      obtain ⟨_, _, _, _, _, _, h4⟩ := hcp k (by omega) (by omega)
      rw [List.getD_eq_getElem?_getD, List.getElem?_eq_getElem hk] at h4
      exact hone _ _ _ h4 u huc
    · intro v' w' ho' hg _ hat
      have hcells : ∀ k (hk : k < (L ++ M).length), RdOff R (fun k => False ∨ v.ownBlock = some k) w (((xs ++ css.flatten).drop (k * n)).take n) (L ++ M)[k] := by
        intro k hk
        rw [List.length_append] at hk
        by_cases e : k < L.length
        · have hin : k * n + n ≤ L.length * n := by
            have : (k + 1) * n ≤ L.length * n := Nat.mul_le_mul_right n e
            rw [Nat.add_mul, Nat.one_mul] at this; exact this
          have hxl := hr.1
          have e2 : ((xs ++ css.flatten).drop (k * n)).take n = (xs.drop (k * n)).take n := by
            rw [List.drop_append_of_le_length (by omega), List.take_append_of_le_length (by rw [List.length_drop]; omega)]
          rw [e2, List.getElem_append_left e]
          exact he k e
        · have hk2 : k - L.length < M.length := by omega
          obtain ⟨_, _, _, _, h2, _, h4⟩ := hcp _ hk2 hk2
          have e2 : ((xs ++ css.flatten).drop (k * n)).take n = css.getD (k - L.length) [] := by
            apply List.ext_getElem?
            intro j
            rw [List.getElem?_take]
            split
            · rename_i hj
              rw [List.getElem?_drop, ← hat2 _ _ hk2 hj, List.getElem?_append_right (by rw [hr.1]; have := Nat.mul_le_mul_right n (show L.length ≤ k by omega); omega), hr.1]
              congr 1
              rw [Nat.sub_mul]
              have := Nat.mul_le_mul_right n (show L.length ≤ k by omega)
              omega
            · rename_i hj
              exact (List.getElem?_eq_none_iff.2 (by omega)).symm
          rw [e2, List.getElem_append_right (by omega)]
          exact (RdOff.old hR h4 (fun b hb => by rcases hb with hb | hb; exact absurd hb id; exact hv b hb)).on hm
      refine h v' w' ⟨⟨xs ++ css.flatten, by rw [List.length_append]; exact ho', fun k hk w'' a' => ?_⟩, fun _ _ => id⟩ hg hat
      refine hcells k hk w'' ⟨a'.os.trans hg.os, a'.tape.trans hg.tape, a'.output.trans hg.output, Nat.le_trans hg.size a'.size, fun b hb hs => ?_⟩
      rw [a'.block b (Nat.lt_of_lt_of_le hb hg.size) ?_]
      · exact hg.block b hb (fun e => hs (Or.inr e.symm))
      · rintro (hb2 | hb2)
        · exact hs (Or.inl hb2)
        · rcases hat with hat | hat
          · exact hs (Or.inr (by rw [← hat]; exact hb2))
          · rw [hat] at hb2
            have : w.heap.size = b := by injection hb2
            omega
end Go.Proofs.Ytdgmmffedhikcaa
/- A lane's Written: what was written, in rows and bytes of the caller's own. -/
namespace Go.Proofs.Ytdgmmffedhikcaa
set_option linter.unusedSimpArgs false
set_option linter.unusedVariables false
open Go.RowKit
set_option maxRecDepth 100000

theorem ou_one : ∀ (w : World) (cs : List Value) (y : Int × List Int), ROu w cs y → ∀ u ∈ cs, u.oneCell' = true := by
  rintro w cs y ⟨v, rfl, ⟨oa, cap, rfl, _⟩, _⟩ u hu
  simp at hu
  rcases hu with rfl | rfl <;> rfl
theorem ou_lit0 (w : World) : RowP 2 ROu (fun _ => False) (w.alloc (.cells #[] 78)) w.heap.size 78 (.slice (some ⟨w.heap.size, 0, none⟩) 0 0) [] :=
  ⟨⟨[], by simpa using World.ownsRow_lit (e := 78) (size := 2) (base := w.heap.size) w #[] 0 (Nat.le_refl _) (by unfold maxLen; omega) rfl, fun i hi => by simp at hi⟩, fun _ _ h => h⟩
set_option maxHeartbeats 1000000 in
theorem cloneOu (v : Value) (l : List (Int × List Int)) (w : World) (h : SlP 2 ROu w v l) (hl : l.length ≤ 1000000) :
    Calls Try.prog 57 #[v] w fun e w' => (∃ v', e = .returned v' ∧ RowP 2 ROu (fun _ => False) w' w.heap.size 78 v' l) ∧ More w w' := by
  obtain ⟨i0, hi, hz0, hz1, hz2⟩ := info_parts (P := Try.prog) (e := 78) (z := .agg #[.int .i64 0, .slice none 0 0]) (size := 2) (bytes := 32) (by kernel_rfl)
  have HS := Lib.hid h
  have HL := Lib.hid hl
  obtain ⟨oa, cap, rfl, h2, h3, h4, h5, h6⟩ := h
  cases oa with
  | none =>
    obtain rfl : cap = 0 := h6 rfl
    obtain rfl : l = [] := List.eq_nil_of_length_eq_zero (by omega)
    clear HS h2 h3 h4 h5 h6 hl
    have hq := fun w => Lib.run_eql_slice_nil (P := Try.prog) w 64 78 none 0 0 0 0 Try.underlying64
    go_enter Try.func57, Try.ntmps57
    go_wp2
    go_ret
    exact ⟨⟨_, rfl, RowP.nil 2 ROu _ _ _ _⟩, More.refl _⟩
  | some ad =>
    clear h2 h3 h4 h5 h6 hl
    have hq := fun w => Lib.run_eql_slice_nil (P := Try.prog) w 64 78 (some ad) l.length cap 0 0 Try.underlying64
    go_enter Try.func57, Try.ntmps57
    go_wp2_with (at_builtin; refine rt_wpList_append_rows w _ rfl (.tmp 5) (.tmp 6) 64 rfl w.heap.size 78 i0 (.agg #[.int .i64 0, .slice none 0 0]) 2 32 Try.underlying64 hi hz0 hz1 hz2 rfl (by decide) keepsOu ou_one _ [] rfl (ou_lit0 w) _ l rfl HS.out (More.alloc _ _) (fun b hb => by cases hb; exact Nat.le_refl _) (by decide) (by have := HL.out; simp; omega) (More.alloc w _).size ?_; intro v2 w2 ho2 hg2 hat2; have O2 := Lib.hid ho2; have G2 : Hid (Away (fun b => (Value.slice (some ⟨w.heap.size, 0, none⟩) 0 0).ownBlock = some b) (w.alloc (.cells #[] 78)) w2) := Lib.hid (Away.of_grown hg2); clear ho2 hg2 hat2)
    go_ret
    refine ⟨⟨_, rfl, by simpa using O2.out⟩, ?_⟩
    exact ((Away.of_more (S := fun b => b = w.heap.size) (More.alloc w _)).trans (G2.out.mono fun b hb => by injection hb with e; exact e.symm)).to_more (More.refl _) (fun k e => by rw [e]; exact Nat.le_refl _)

theorem ownsBase {w : World} {base base' e n m : Nat} {v : Value} {xs : List Value} (h : w.ownsRow base e n v m xs) (hb : base' ≤ base) : w.ownsRow base' e n v m xs := by
  obtain ⟨h1, h2⟩ := h
  refine ⟨h1, ?_⟩
  rcases h2 with h | ⟨g, cap, cur, e1, h3, h4⟩
  · exact Or.inl h
  · exact Or.inr ⟨g, cap, cur, e1, Nat.le_trans hb h3, h4⟩
theorem ownsOff {S : Nat → Prop} {w w' : World} {base e n m : Nat} {v : Value} {xs : List Value} (h : w.ownsRow base e n v m xs) (a : Away S w w') (hS : ∀ b, v.ownBlock = some b → ¬ S b) : w'.ownsRow base e n v m xs := by
  obtain ⟨h1, h2⟩ := h
  refine ⟨h1, ?_⟩
  rcases h2 with h | ⟨g, cap, cur, e1, h3, h4, h5⟩
  · exact Or.inl h
  · exact Or.inr ⟨g, cap, cur, e1, h3, a.blk h4 (hS g (by rw [e1]; rfl)), h5⟩
/-- The rows; of the first j the bytes are new. -/
def OutsAt (w0 w : World) (v : Value) (W : List (Int × List Int)) (j : Nat) : Prop :=
  ∃ xs, w.ownsRow w0.heap.size 78 2 v W.length xs ∧ ∀ i (hi : i < W.length), ∃ u, xs[i * 2]? = some (.int .i64 (W[i].1)) ∧ xs[i * 2 + 1]? = some u ∧
    (∀ w', Away (fun k => v.ownBlock = some k) w w' → SlI .u8 w' u (W[i].2)) ∧ (Byt (W[i].2) ∧ W[i].2.length ≤ 200) ∧ (i < j → (∀ b, u.ownBlock = some b → w0.heap.size ≤ b ∧ b < w.heap.size ∧ v.ownBlock ≠ some b) ∧ w.ownsRow w0.heap.size 5 1 u (W[i].2).length ((W[i].2).map (Value.int .u8)))
theorem OutsAt.start {w0 w : World} {v : Value} {W : List (Int × List Int)} {D : Nat → Prop} (h : RowP 2 ROu D w w0.heap.size 78 v W) : OutsAt w0 w v W 0 := by
  obtain ⟨⟨xs, o, r⟩, _⟩ := h
  refine ⟨xs, o, fun i hi => ?_⟩
  obtain ⟨u, e, _, hb, hl⟩ := (r i hi).read
  have e0 := congrArg (fun l : List Value => l[0]?) e
  have e1 := congrArg (fun l : List Value => l[1]?) e
  simp at e0 e1
  refine ⟨u, e0, e1, fun w' a => ?_, ⟨hb, hl⟩, fun h => absurd h (by omega)⟩
  obtain ⟨u', e', hs', _⟩ := (r i hi) w' (a.mono fun k hk => Or.inr hk)
  rw [e] at e'
  simp at e'
  rw [e']
  exact hs'
theorem OutsAt.more {w0 w w' : World} {v : Value} {W : List (Int × List Int)} {j : Nat} (h : OutsAt w0 w v W j) (m : More w w') : OutsAt w0 w' v W j := by
  obtain ⟨xs, o, r⟩ := h
  refine ⟨xs, lnOwnsI o (S := fun _ => False) (Away.of_more m) (fun _ _ h => h), fun i hi => ?_⟩
  obtain ⟨u, h1, h2, h3, h4, h5⟩ := r i hi
  exact ⟨u, h1, h2, fun w'' a => h3 w'' ((Away.of_more m).trans a), h4, fun h => ⟨fun b hb => ⟨((h5 h).1 b hb).1, Nat.lt_of_lt_of_le ((h5 h).1 b hb).2.1 m.size, ((h5 h).1 b hb).2.2⟩, lnOwnsI (h5 h).2 (S := fun _ => False) (Away.of_more m) (fun _ _ h => h)⟩⟩
theorem OutsAt.shape {w0 w : World} {v : Value} {W : List (Int × List Int)} {j : Nat} (h : OutsAt w0 w v W j) : ∃ oa cap, v = .slice oa W.length cap := by
  obtain ⟨xs, o, _⟩ := h
  rcases o.2 with ⟨rfl, h0⟩ | ⟨g, cap, cur, rfl, _⟩
  · exact ⟨none, 0, by rw [h0]⟩
  · exact ⟨_, cap, rfl⟩
theorem OutsAt.at {w0 w : World} {oa : Option Addr} {n cap : Nat} {W : List (Int × List Int)} {j : Nat} (h : OutsAt w0 w (.slice oa n cap) W j) (hn : n = W.length) (i : Nat) (hi : i < W.length) :
    ∃ g, oa = some ⟨g, 0, none⟩ ∧ w0.heap.size ≤ g ∧ g < w.heap.size ∧ ∃ u, w.cell? ⟨g, i * 2, none⟩ = some (.int .i64 (W[i].1)) ∧ w.cell? ⟨g, i * 2 + 1, none⟩ = some u ∧ w.frozen? ⟨g, i * 2 + 1, none⟩ = false ∧ SlI .u8 w u (W[i].2) ∧ Byt (W[i].2) ∧ W[i].2.length ≤ 200 := by
  subst hn
  obtain ⟨xs, o, r⟩ := h
  obtain ⟨g, rfl, hb, hg⟩ : ∃ g, oa = some ⟨g, 0, none⟩ ∧ w0.heap.size ≤ g ∧ g < w.heap.size := by
    rcases o.2 with ⟨_, h0⟩ | ⟨g, c, cur, e, hb, hg, _⟩
    · omega
    · injection e with e1
      exact ⟨g, e1, hb, lt_of_block hg⟩
  obtain ⟨u, h1, h2, h3, h4, _⟩ := r i hi
  exact ⟨g, rfl, hb, hg, u, by rw [o.cellAt _ (by omega)]; exact h1, by rw [o.cellAt _ (by omega)]; exact h2, o.frozenAt _, h3 w (Away.refl _ _), h4⟩
theorem OutsAt.put {w0 w w1 : World} {g n cap : Nat} {W : List (Int × List Int)} {j : Nat} (h : OutsAt w0 w (.slice (some ⟨g, 0, none⟩) n cap) W j) (hn : n = W.length) (hj : j < W.length) (m : More w w1) (hg : g < w.heap.size) (h0 : w0.heap.size ≤ w.heap.size) {u : Value}
    (hu : w1.ownsRow w.heap.size 5 1 u (W[j].2).length ((W[j].2).map (Value.int .u8))) : OutsAt w0 (w1.setCell ⟨g, j * 2 + 1, none⟩ u) (.slice (some ⟨g, 0, none⟩) n cap) W (j + 1) := by
  subst hn
  obtain ⟨xs, o, r⟩ := h.more m
  obtain ⟨os, og⟩ := o.stored (j * 2 + 1) u
  have a : Away (fun k => some g = some k) w1 (w1.setCell ⟨g, j * 2 + 1, none⟩ u) := Away.of_grown og
  have hsz : (w1.setCell ⟨g, j * 2 + 1, none⟩ u).heap.size = w1.heap.size := by simp
  refine ⟨_, os, fun i hi => ?_⟩
  obtain ⟨u0, h1, h2, h3, h4, h5⟩ := r i hi
  have hxl : xs.length = W.length * 2 := o.1
  by_cases e : i = j
  · subst e
    have hl200 := h4.2
    refine ⟨u, by rw [List.getElem?_set_ne (by omega)]; exact h1, by rw [List.getElem?_set_self (by omega)], fun w' a' => ?_, h4, fun _ => ⟨fun b hb => ⟨Nat.le_trans h0 (lnGeI hu hb), by rw [hsz]; exact lnLtO hu hb, fun eg => ?_⟩, ownsBase (lnOwnsI hu a (fun b hb e => ?_)) h0⟩⟩
    · exact (SlI.of_owns hu (by omega)).off (D := fun k => some g = some k) (fun b hb eg => by have := lnGeI hu hb; have e2 : g = b := Option.some.inj eg; omega) (a.trans a')
    · have := lnGeI hu hb
      have e2 : g = b := Option.some.inj eg
      omega
    · have e2 : g = b := Option.some.inj e
      omega
  · refine ⟨u0, by rw [List.getElem?_set_ne (by omega)]; exact h1, by rw [List.getElem?_set_ne (by omega)]; exact h2, fun w' a' => h3 w' (a.trans a'), h4, fun hlt => ⟨fun b hb => ?_, ownsOff (h5 (by omega)).2 a (fun b hb e => ((h5 (by omega)).1 b hb).2.2 e)⟩⟩
    obtain ⟨q1, q2, q3⟩ := (h5 (by omega)).1 b hb
    exact ⟨q1, by rw [hsz]; exact q2, q3⟩
/-- What was written, as it is told: the bytes are new, too. -/
def ROn (base : Nat) : Reader (Int × List Int) := fun w cs o => ∃ v, cs = [.int .i64 o.1, v] ∧ SlI .u8 w v o.2 ∧ Byt o.2 ∧ o.2.length ≤ 200 ∧ (∀ b, v.ownBlock = some b → base ≤ b) ∧ w.ownsRow base 5 1 v o.2.length (o.2.map (Value.int .u8))
theorem OutsAt.done {w0 w : World} {v : Value} {W : List (Int × List Int)} (h : OutsAt w0 w v W W.length) : RowP 2 (ROn w0.heap.size) (fun b => b < w0.heap.size) w w0.heap.size 78 v W := by
  obtain ⟨xs, o, r⟩ := h
  refine ⟨⟨xs, o, fun i hi => ?_⟩, fun b hb hlt => by have := lnGeI o hb; omega⟩
  obtain ⟨u, h1, h2, h3, h4, h5⟩ := r i hi
  have hc : (xs.drop (i * 2)).take 2 = [.int .i64 (W[i].1), u] := by
    apply List.ext_getElem?
    intro k
    match k with
    | 0 => simpa using h1
    | 1 => simpa using h2
    | k + 2 =>
      rw [List.getElem?_eq_none (by rw [List.length_take]; omega), List.getElem?_eq_none (by simp)]
  intro w' a
  refine ⟨u, hc, ?_, h4.1, h4.2, fun b hb => ((h5 hi).1 b hb).1, ownsOff (h5 hi).2 a (fun b hb hD => ?_)⟩
  · refine (h3 w (Away.refl _ _)).off (fun b hb hD => ?_) a
    obtain ⟨q1, q2, q3⟩ := (h5 hi).1 b hb
    rcases hD with hD | hD
    · omega
    · exact q3 hD
  · obtain ⟨q1, q2, q3⟩ := (h5 hi).1 b hb
    rcases hD with hD | hD
    · omega
    · exact q3 hD
section
variable {N : Nat → Prop} {w w' : World} {k : LnB} {vo : Value} {s : LnS}
set_option maxHeartbeats 2000000 in
theorem written_ln (h : LnX N w k vo s) (hW : s.W.length ≤ 1000000) : Calls Try.prog 23 #[.pointer (some ⟨k.L, 0, none⟩)] w fun e w' => (∃ v, e = .returned v ∧ RowP 2 (ROn w.heap.size) (fun b => b < w.heap.size) w' w.heap.size 78 v s.W) ∧ More w w' := by
  have c0 : w.cell? ⟨k.L, 0, none⟩ = some vo := blk_cell h.blk 0 rfl
  have HC := Lib.hid (cloneOu vo s.W w (h.out.sl (by decide)) hW)
  have hb64 : (s.W.length : Int) ≤ 9223372036854775807 := by omega
  clear h hW
  go_enter Try.func23, Try.ntmps23
  go_wp2_with (go_at_call 57; ((with_reducible refine (HC.out).mono ?_); rintro e w1 ⟨⟨v1, rfl, r1⟩, m1⟩; have R1 := Lib.hid (OutsAt.start r1); have M1 := Lib.hid m1; obtain ⟨oa, cap, rfl⟩ := (OutsAt.start r1).shape; clear r1 m1))
  go_loopw [12] (fun ix wr => ∃ j : Nat, j ≤ s.W.length ∧ ix = .int .i64 j ∧ OutsAt w wr (.slice oa s.W.length cap) s.W j ∧ More w wr) (fun ix _ => s.W.length - (intOf ix).toNat)
  case atStart => exact ⟨0, by omega, rfl, R1.out, M1.out⟩
  case round =>
    obtain ⟨j, hj, rfl, ho, hm⟩ := hrel
    have HO := Lib.hid ho
    have HM := Lib.hid hm
    clear ho hm
    by_cases hlt : j < s.W.length
    · have hlti : (j : Int) < (s.W.length : Int) := by omega
      obtain ⟨g, rfl, hg0, hg, u, q0, q1, q2, hs, hb, hl⟩ := HO.out.at rfl j hlt
      have HG := Lib.hid hg
      have HG0 := Lib.hid hg0
      have HCB := Lib.hid (cloneB u _ wr hs (by omega))
      have hz : w.heap.size ≤ wr.heap.size := HM.out.size
      obtain ⟨ou, cu, rfl, _⟩ := id hs
      clear hs hb hl hg0 q0
      go_wp2_with (go_at_call 41; ((with_reducible refine (HCB.out).mono ?_); rintro e w3 ⟨⟨v3, rfl, o3⟩, m3⟩; have O3 := Lib.hid o3; have M3 := Lib.hid m3; have p1 : w3.cell? ⟨g, j * 2 + 1, none⟩ = some (.slice ou (s.W[j].2).length cu) := (by rw [m3.cells _ _ HG.out]; exact q1); have p2 : w3.frozen? ⟨g, j * 2 + 1, none⟩ = false := ((HO.out.more m3).at rfl j hlt |>.elim fun g' hh => by obtain ⟨e, _, _, _, _, _, f, _⟩ := hh; injection e with e; injection e with e; subst e; exact f); obtain ⟨o4, c4, rfl⟩ := lnShapeI o3; clear o3 m3))
      go_roundw
      case rel => exact ⟨j + 1, by omega, by go_num, HO.out.put rfl hlt M3.out HG.out hz O3.out, (HM.out.trans M3.out).st HG0.out _⟩
      case measure => simp [intOf]; omega
    · obtain rfl : j = s.W.length := by omega
      have hnl : ¬ (s.W.length : Int) < (s.W.length : Int) := by omega
      go_wp2
      go_ret
      exact ⟨⟨_, rfl, HO.out.done⟩, HM.out⟩
end
end Go.Proofs.Ytdgmmffedhikcaa
