/- Merged from my texts LaneSq. -/
import Derived.Test.YtdgmmffedhikcaaMg31
import Derived.Test.YtdgmmffedhikcaaMg34
import Derived.Test.YtdgmmffedhikcaaMg35
import Derived.Deep.Cut
import Derived.Deep.CutRange
import Derived.Deep.CutBlock
/- The law LaneSeqs of lane, walked. (printed by gen_laneSq.py) -/
namespace Go.Proofs.Ytdgmmffedhikcaa
set_option linter.unusedSimpArgs false
set_option linter.unusedVariables false
open Go.RowKit
set_option maxRecDepth 100000

def RInt1 : Reader Int := fun _ cs n => cs = [.int .i64 n]
/-- A row of integers of the law's own. -/
structure RwI (w0 w : World) (v : Value) (Q : List Int) (F : List Nat) : Prop where
  row : RowP 1 RInt1 (fun _ => False) w w0.heap.size 3 v Q
  own : ∀ b, v.ownBlock = some b → b ∈ F
section
variable {w0 w w' : World} {F : List Nat} {v : Value} {Q : List Int}
theorem RwI.nil (w0 w : World) (F : List Nat) : RwI w0 w (.slice none 0 0) [] F := ⟨RowP.nil 1 _ _ w _ _, fun b h => by cases h⟩
theorem RwI.same (h : RwI w0 w v Q F) (hs : ∀ b ∈ F, w'.heap[b]? = w.heap[b]?) : RwI w0 w' v Q F := by
  obtain ⟨⟨⟨xs, o, r⟩, ap⟩, hF⟩ := h
  exact ⟨⟨⟨xs, rowOwn_stay o (fun b hb => hs b (hF b hb)), fun i hi _ _ => r i hi w (Away.refl _ _)⟩, ap⟩, hF⟩
theorem RwI.stay (h : RwI w0 w v Q F) (hs : Stay F w w') : RwI w0 w' v Q F := h.same hs.2
theorem RwI.more (h : RwI w0 w v Q F) (m : More w w') : RwI w0 w' v Q F := ⟨h.row.on m, h.own⟩
theorem RwI.grow {F' : List Nat} (h : RwI w0 w v Q F) (hF : ∀ b ∈ F, b ∈ F') : RwI w0 w v Q F' := ⟨h.row, fun b hb => hF b (h.own b hb)⟩
theorem RwI.shape (h : RwI w0 w v Q F) : ∃ oa cap, v = .slice oa Q.length cap := by
  obtain ⟨oa, m, cap, e, hm, _⟩ := h.row.shape
  exact ⟨oa, cap, by rw [e, hm]⟩
theorem RwI.get (h : RwI w0 w v Q F) (i : Nat) (hi : i < Q.length) : ∃ g cap, v = .slice (some ⟨g, 0, none⟩) Q.length cap ∧ g < w.heap.size ∧ w.cell? ⟨g, i, none⟩ = some (.int .i64 (Q.getD i 0)) := by
  obtain ⟨⟨⟨xs, o, r⟩, _⟩, _⟩ := h
  have eg : Q.getD i 0 = Q[i] := by simp [hi]
  rw [eg]
  have e : (xs.drop (i * 1)).take 1 = [.int .i64 Q[i]] := r i hi w (Away.refl _ _)
  rcases o.2 with ⟨_, h0⟩ | ⟨g, cap, cur, rfl, hb, hg, hrest⟩
  · omega
  · refine ⟨g, cap, rfl, lt_of_block hg, ?_⟩
    have e1 := congrArg (fun l : List Value => l[0]?) e
    simp at e1
    rw [o.cellAt _ (by omega)]
    exact e1
end
theorem RowP.stepI {w0 w w' : World} {v : Value} {Q : List Int} {S : Nat → Prop} (h : RowP 1 RInt1 (fun _ => False) w w0.heap.size 3 v Q) (a : Away S w w') (hv : ∀ b, v.ownBlock = some b → ¬ S b) : RowP 1 RInt1 (fun _ => False) w' w0.heap.size 3 v Q := by
  have hl := fun {b} (hb : v.ownBlock = some b) => h.lt hb
  obtain ⟨⟨xs, o, r⟩, ap⟩ := h
  exact ⟨⟨xs, rowOwn_stay o (fun b hb => a.block b (hl hb) (hv b hb)), fun i hi _ _ => r i hi w (Away.refl _ _)⟩, ap⟩
theorem MapAt.sameS {K V : Type} [DecidableEq K] {w w' : World} {b : Nat} {ke : K → Value} {ve : V → Value} {L : List (K × V)} (h : MapAt w b ke ve L) (hs : w'.heap[b]? = w.heap[b]?) : MapAt w' b ke ve L := by
  obtain ⟨⟨es, c, hb, r⟩, k⟩ := h
  exact ⟨⟨es, c, hs.trans hb, r⟩, k⟩
theorem zero_intS (w : World) : (zeroValue 3).run Try.prog w = .ok (.int .i64 0) w := by simp [go_sem]
theorem keyI64S : KeyOK Try.prog 3 (Value.int .i64) := keyInt Try.underlying3
/-- The map of what was dropped. -/
def dropM (D : List Int) : List (Int × Int) := D.foldl (fun m i => mput m i 1) []
theorem dropM_snoc (D : List Int) (i : Int) : dropM (D ++ [i]) = mput (dropM D) i 1 := by unfold dropM; rw [List.foldl_append]; rfl
theorem mget_put1 (i k : Int) : ∀ L : List (Int × Int), mget (mput L k 1) i = if i = k then some 1 else mget L i
  | [] => by simp [mput, mget]
  | (a, v) :: L => by
    unfold mput
    by_cases e : k = a
    · subst e
      rw [if_pos rfl]
      by_cases e2 : i = k <;> simp [mget, e2]
    · rw [if_neg e]
      by_cases e2 : i = a
      · subst e2
        have : ¬ i = k := fun h => e h.symm
        simp [mget, this]
      · simp only [mget, if_neg e2]
        exact mget_put1 i k L
theorem dropM_get {D : List Int} {i : Int} (h : i ∈ D) : mget (dropM D) i = some 1 := by
  suffices hk : ∀ (D : List Int) (m : List (Int × Int)), (i ∈ D ∨ mget m i = some 1) → mget (D.foldl (fun m i => mput m i 1) m) i = some 1 from hk D [] (Or.inl h)
  intro D
  induction D with
  | nil => intro m h; rcases h with h | h; simp at h; exact h
  | cons a D ih =>
    intro m h
    refine ih _ ?_
    rw [mget_put1]
    rcases h with h | h
    · rcases List.mem_cons.1 h with rfl | h
      · exact Or.inr (by rw [if_pos rfl])
      · exact Or.inl h
    · refine Or.inr ?_
      split
      · rfl
      · exact h
theorem SInv.do' {sq0 : Int} {s : LnS} {Q : List Int} {r p : Nat} {D : List Int} {kw kc : List Nat} (h : SInv sq0 s Q r p D kw kc) (a : ActS) (h1 : ¬ a.doo = 1) (h2 : ¬ a.doo = 2) (hk : PkOK a.x.pk) : ∃ kw' kc', SInv sq0 (doP s a p).1 Q r (if (doP s a p).2 then p + 1 else p) D kw' kc' := by
  unfold doP
  by_cases h0 : a.doo = 0
  · rw [if_pos h0]
    exact ⟨kw, kc, h.put { a.x with id := (p : Int) } rfl hk⟩
  · rw [if_neg h0, if_neg h1, if_neg h2]
    split
    · exact h.write a.acc
    · split
      · exact ⟨kw, kc, h.want a.x.layer⟩
      · exact ⟨kw, kc, h⟩
set_option maxHeartbeats 2000000 in
theorem LaneSeqs_bad (m mo src sq st : Int) (oa : Option Addr) (n cap : Nat) (w : World) (h : cfgB m mo = false) :
    Calls Try.prog 7 #[.agg #[.int .i64 m, .int .i64 mo, .int .u32 src, .int .u16 sq, .int .u32 st], .slice oa n cap] w fun e w' => e = .returned (.bool true) ∧ More w w' := by
  have HB := Lib.hid (new_bad m mo src sq st h)
  clear h
  go_enter Try.func7, Try.ntmps7
  go_wp2_with (first | (go_at_call 9; ((with_reducible refine (awake20 _).mono ?_); rintro e w1 ⟨rfl, m1⟩; have B1 := Lib.hid (blk_more m1 (blk_new w (.cells #[.int .i64 m, .int .i64 mo, .int .u32 src, .int .u16 sq, .int .u32 st] 25))); have M1 : Hid (More w w1) := Lib.hid ((More.alloc _ _).trans m1); have q0 : w1.cell? ⟨w.heap.size, 0, none⟩ = some (.int .i64 m) := blk_cell B1.out 0 rfl; have q1 : w1.cell? ⟨w.heap.size, 1, none⟩ = some (.int .i64 mo) := blk_cell B1.out 1 rfl; have q2 : w1.cell? ⟨w.heap.size, 2, none⟩ = some (.int .u32 src) := blk_cell B1.out 2 rfl; have q3 : w1.cell? ⟨w.heap.size, 3, none⟩ = some (.int .u16 sq) := blk_cell B1.out 3 rfl; have q4 : w1.cell? ⟨w.heap.size, 4, none⟩ = some (.int .u32 st) := blk_cell B1.out 4 rfl; clear m1)) | (go_at_call 10; ((with_reducible refine (HB.out _).mono ?_); rintro e w2 ⟨rfl, m2⟩; have M2 : Hid (More w w2) := Lib.hid (M1.out.trans m2); clear m2)))
  go_ret
  exact ⟨rfl, M2.out⟩
set_option maxHeartbeats 2000000 in
theorem LaneSeqs_large (n : Nat) (mo src sq st : Int) (v : Value) (l : List ActS) (w : World) (h1 : 1 ≤ n) (h2 : n ≤ 8) (h3 : 1 ≤ mo) (h4 : mo ≤ 10) (hq : U16 sq) (hs : U32 src) (sl : SlP 16 RAct w v l) (hl : lrgA l = true) :
    Calls Try.prog 7 #[.agg #[.int .i64 n, .int .i64 mo, .int .u32 src, .int .u16 sq, .int .u32 st], v] w fun e w' => e = .returned (.bool true) ∧ More w w' := by
  have HN := Lib.hid (fun w1 (m1 : More w w1) => new_hF w w1 m1 [] (fun b hb => by simp at hb) (n : Int) mo src sq st n rfl h1 h2 h3 h4 hq hs)
  have HL := Lib.hid (fun w1 (m1 : More w w1) => large20 v l w1 (sl.keep keepsAct m1))
  rw [hl] at HL
  clear h1 h2 h3 h4 hq hs sl hl
  go_enter Try.func7, Try.ntmps7
  go_wp2_with (first | (go_at_call 9; ((with_reducible refine (awake20 _).mono ?_); rintro e w1 ⟨rfl, m1⟩; have B1 := Lib.hid (blk_more m1 (blk_new w (.cells #[.int .i64 n, .int .i64 mo, .int .u32 src, .int .u16 sq, .int .u32 st] 25))); have M1 : Hid (More w w1) := Lib.hid ((More.alloc _ _).trans m1); have q0 : w1.cell? ⟨w.heap.size, 0, none⟩ = some (.int .i64 n) := blk_cell B1.out 0 rfl; have q1 : w1.cell? ⟨w.heap.size, 1, none⟩ = some (.int .i64 mo) := blk_cell B1.out 1 rfl; have q2 : w1.cell? ⟨w.heap.size, 2, none⟩ = some (.int .u32 src) := blk_cell B1.out 2 rfl; have q3 : w1.cell? ⟨w.heap.size, 3, none⟩ = some (.int .u16 sq) := blk_cell B1.out 3 rfl; have q4 : w1.cell? ⟨w.heap.size, 4, none⟩ = some (.int .u32 st) := blk_cell B1.out 4 rfl; clear m1)) | (go_at_call 10; ((with_reducible refine (HN.out _ M1.out).mono ?_); rintro e w2 ⟨L, rfl, h2, m2⟩; have M2 : Hid (More w w2) := Lib.hid (M1.out.trans m2); clear h2 m2)) | (go_at_call 11; ((with_reducible refine (HL.out _ M2.out).mono ?_); rintro e w3 ⟨rfl, m3⟩; have M3 : Hid (More w w3) := Lib.hid (M2.out.trans m3); clear m3)))
  go_ret
  exact ⟨rfl, M3.out⟩
set_option maxHeartbeats 40000000 in
theorem LaneSeqs_main (n : Nat) (mo src sq st : Int) (v : Value) (l : List ActS) (w : World) (h1 : 1 ≤ n) (h2 : n ≤ 8) (h3 : 1 ≤ mo) (h4 : mo ≤ 10) (hq : U16 sq) (hs : U32 src) (sl : SlP 16 RAct w v l) (hl : lrgA l = false) :
    Calls Try.prog 7 #[.agg #[.int .i64 n, .int .i64 mo, .int .u32 src, .int .u16 sq, .int .u32 st], v] w fun e w' => e = .returned (.bool true) ∧ More w w' := by
  have HN := Lib.hid (fun w1 (m1 : More w w1) hF => new_hF w w1 m1 [w.heap.size] hF (n : Int) mo src sq st n rfl h1 h2 h3 h4 hq hs)
  have HL := Lib.hid (fun w1 (m1 : More w w1) => large20 v l w1 (sl.keep keepsAct m1))
  rw [hl] at HL
  obtain ⟨oa, cap, rfl, hl63, hel, hok⟩ := acts sl
  have HEL := Lib.hid hel
  have HSM := Lib.hid (lrgA_no hl)
  have HOK := Lib.hid hok
  have hl120 : l.length ≤ 120 := HSM.out.1
  clear h3 h4 hq hs sl hl hel hok
  have hmm := @run_makeMap Try.prog
  go_enter Try.func7, Try.ntmps7
  go_wp2_with (first | (go_at_call 9; ((with_reducible refine (awake20 _).mono ?_); rintro e w1 ⟨rfl, m1⟩; have B1 := Lib.hid (blk_more m1 (blk_new w (.cells #[.int .i64 n, .int .i64 mo, .int .u32 src, .int .u16 sq, .int .u32 st] 25))); have M1 : Hid (More w w1) := Lib.hid ((More.alloc _ _).trans m1); have q0 : w1.cell? ⟨w.heap.size, 0, none⟩ = some (.int .i64 n) := blk_cell B1.out 0 rfl; have q1 : w1.cell? ⟨w.heap.size, 1, none⟩ = some (.int .i64 mo) := blk_cell B1.out 1 rfl; have q2 : w1.cell? ⟨w.heap.size, 2, none⟩ = some (.int .u32 src) := blk_cell B1.out 2 rfl; have q3 : w1.cell? ⟨w.heap.size, 3, none⟩ = some (.int .u16 sq) := blk_cell B1.out 3 rfl; have q4 : w1.cell? ⟨w.heap.size, 4, none⟩ = some (.int .u32 st) := blk_cell B1.out 4 rfl; clear m1)) | (go_at_call 10; ((with_reducible refine (HN.out _ M1.out (fun b hb => (by have := blk_lt B1.out; simp at hb; subst hb; omega))).mono ?_); rintro e w2 ⟨L, rfl, h2, m2⟩; have H2 := Lib.hid h2; have B2 := Lib.hid (blk_more m2 B1.out); clear h2 m2)) | (go_at_call 11; ((with_reducible refine (HL.out _ H2.out.more).mono ?_); rintro e w3 ⟨rfl, m3⟩; have H3 := Lib.hid (H2.out.on m3); have B3 := Lib.hid (blk_more m3 B2.out); clear m3)))
  obtain ⟨i0, hi, hz0, hz1, hz2⟩ := info_parts (P := Try.prog) (e := 3) (z := .int .i64 0) (size := 1) (bytes := 8) (by kernel_rfl)
  have HSQ : Hid (U16 sq) := Lib.hid H3.out.ok.sq
  obtain ⟨W4, hW4⟩ : ∃ W4, w3.alloc (.map #[] 0) = W4 := ⟨_, rfl⟩
  obtain ⟨MB, hMB⟩ : ∃ MB, w3.heap.size = MB := ⟨_, rfl⟩
  have H4 : Hid (LnH w W4 L (newL n mo src sq st) [MB, w.heap.size]) := Lib.hid (by rw [← hW4, ← hMB]; exact H3.out.add (More.alloc _ _) (Nat.le_refl _) (by simp))
  have B4 : Hid (W4.heap[w.heap.size]? = some (.cells #[.int .i64 n, .int .i64 mo, .int .u32 src, .int .u16 sq, .int .u32 st] 25 (0, 0))) := Lib.hid (by rw [← hW4]; exact blk_alloc B3.out _)
  have P4 : Hid (MapAt W4 MB (Value.int .i64) (Value.int .i64) (dropM [])) := Lib.hid (by rw [← hW4, ← hMB]; exact MapAt.made w3 _ _)
  have hMB0 : w.heap.size < MB := by rw [← hMB]; exact blk_lt B3.out
  rw [hW4, hMB]
  clear hW4 hMB H3 B3
  go_loopw [7, 8, 9, 40] (fun pv rw pu ix wr => ∃ (j : Nat) (s : LnS) (Q : List Int) (r p : Nat) (D : List Int) (kw kc : List Nat) (F : List Nat), j ≤ l.length ∧ ix = .int .i64 j ∧ rw = .int .i64 r ∧ pu = .int .i64 p ∧ Q.length ≤ j ∧ p ≤ j ∧ s.room = n ∧ s.W.length ≤ j ∧ SInv sq s Q r p D kw kc ∧ LnH w wr L s F ∧ RwI w wr pv Q F ∧ w.heap.size ∈ F ∧ MB ∈ F ∧ wr.heap[w.heap.size]? = some (.cells #[.int .i64 n, .int .i64 mo, .int .u32 src, .int .u16 sq, .int .u32 st] 25 (0, 0)) ∧ MapAt wr MB (Value.int .i64) (Value.int .i64) (dropM D) ∧ pv.ownBlock ≠ some w.heap.size ∧ pv.ownBlock ≠ some MB) (fun _ _ _ ix _ => l.length - (intOf ix).toNat)
  case atStart => exact ⟨0, _, [], 0, 0, [], [], [], _, by omega, rfl, rfl, rfl, by simp, by omega, rfl, by simp [newL], ⟨by simp [newL], fun i hi => by simp [newL] at hi, by simp, fun _ => by simp [newL], fun e => (by cases e), by show sq = (sq + 0) % 65536; have := HSQ.out; unfold U16 at this; omega, (by show SOuts sq [] [] []; unfold SOuts; trivial), (by show SOuts sq [] [] []; unfold SOuts; trivial), by simp, fun k hk => by simp at hk, fun k hk => by omega, fun x hx => by simp [newL] at hx, fun x hx => by simp [newL] at hx⟩, H4.out, RwI.nil _ _ _, by simp, by simp, B4.out, P4.out, by simp [Value.ownBlock], by simp [Value.ownBlock]⟩
  case round =>
    clear H4 B4 P4
    obtain ⟨j, s, Q, r, p, D, kw, kc, F, hj, rfl, rfl, rfl, hQ, hp, hroom, hW, hinv, hh, hput, hbf, hmf, hbc, hmp, hne, hne2⟩ := hrel
    have HH := Lib.hid hh
    have HP := Lib.hid hput
    have HI := Lib.hid hinv
    have HW := Lib.hid hW
    have HROOM := Lib.hid hroom
    have HBF := Lib.hid hbf
    have HMF := Lib.hid hmf
    have HBC0 := Lib.hid hbc
    have HMP0 := Lib.hid hmp
    obtain ⟨ov, cv, rfl⟩ := hput.shape
    have HNE := Lib.hid hne
    have HNE2 := Lib.hid hne2
    have hrj : r ≤ j := by have := hinv.le; omega
    clear hh hinv hW hroom hput hbf hmf hbc hmp hne hne2
    by_cases hlt : j < l.length
    · obtain ⟨b, off, os, ks, oe, ke, ol, kl, rfl, hb, ht, hs⟩ := HEL.out j hlt
      have HRG := Lib.hid (ht wr HH.out.more)
      have HPS := Lib.hid (fun w' (m : More w w') => hs.keep m)
      have hjl : (j : Int) < (l.length : Int) := by omega
      have hbw : b < wr.heap.size := Nat.lt_of_lt_of_le hb HH.out.more.size
      have HMEM : Hid (l.getD j act0 ∈ l) := Lib.hid (by rw [List.getD_eq_getElem?_getD, List.getElem?_eq_getElem hlt]; exact List.getElem_mem hlt)
      have HPO := Lib.hid (HOK.out _ HMEM.out)
      have HPM := Lib.hid (HSM.out.2 _ HMEM.out)
      have HGD := Lib.hid (List.getD_eq_getElem?_getD (l := l) (i := j) (a := act0))
      clear ht hs
      generalize hact : l.getD j act0 = act at *
      have HACT := Lib.hid hact
      clear hact HGD HMEM
      obtain ⟨d, g, c, x⟩ := act
      have HDX : Hid (LnH w (wr.alloc (.cells #[.int .i64 d, .int .i64 g, .bool c, .int .i64 x.id, .int .i64 x.layer, .bool x.key, .bool x.pk.mr, .int .u8 x.pk.ty, .int .u16 x.pk.sq, .int .u32 x.pk.st, .int .u32 x.pk.sc, .slice os x.pk.ss.length ks, .bool x.pk.has, .int .u16 x.pk.pr, .slice oe x.pk.ex.length ke, .slice ol x.pk.pl.length kl] 43)) L s (wr.heap.size :: F)) := Lib.hid (HH.out.add (More.alloc _ _) (Nat.le_refl _) (by simp))
      have HPX : Hid (RwI w (wr.alloc (.cells #[.int .i64 d, .int .i64 g, .bool c, .int .i64 x.id, .int .i64 x.layer, .bool x.key, .bool x.pk.mr, .int .u8 x.pk.ty, .int .u16 x.pk.sq, .int .u32 x.pk.st, .int .u32 x.pk.sc, .slice os x.pk.ss.length ks, .bool x.pk.has, .int .u16 x.pk.pr, .slice oe x.pk.ex.length ke, .slice ol x.pk.pl.length kl] 43)) (.slice ov Q.length cv) Q (wr.heap.size :: F)) := Lib.hid ((HP.out.more (More.alloc _ _)).grow (fun b hb => List.mem_cons_of_mem _ hb))
      have HBC := Lib.hid (blk_alloc HBC0.out (.cells #[.int .i64 d, .int .i64 g, .bool c, .int .i64 x.id, .int .i64 x.layer, .bool x.key, .bool x.pk.mr, .int .u8 x.pk.ty, .int .u16 x.pk.sq, .int .u32 x.pk.st, .int .u32 x.pk.sc, .slice os x.pk.ss.length ks, .bool x.pk.has, .int .u16 x.pk.pr, .slice oe x.pk.ex.length ke, .slice ol x.pk.pl.length kl] 43))
      have HMP := Lib.hid (HMP0.out.more (More.alloc wr (.cells #[.int .i64 d, .int .i64 g, .bool c, .int .i64 x.id, .int .i64 x.layer, .bool x.key, .bool x.pk.mr, .int .u8 x.pk.ty, .int .u16 x.pk.sq, .int .u32 x.pk.st, .int .u32 x.pk.sc, .slice os x.pk.ss.length ks, .bool x.pk.has, .int .u16 x.pk.pr, .slice oe x.pk.ex.length ke, .slice ol x.pk.pl.length kl] 43)))
      have HBX := Lib.hid (blk_new wr (.cells #[.int .i64 d, .int .i64 g, .bool c, .int .i64 x.id, .int .i64 x.layer, .bool x.key, .bool x.pk.mr, .int .u8 x.pk.ty, .int .u16 x.pk.sq, .int .u32 x.pk.st, .int .u32 x.pk.sc, .slice os x.pk.ss.length ks, .bool x.pk.has, .int .u16 x.pk.pr, .slice oe x.pk.ex.length ke, .slice ol x.pk.pl.length kl] 43))
      by_cases d1 : d = 1
      · have hd1 : (d == 1) = true := by simpa using d1
        have hps := HI.out.choose
        have hfr := chooseP_frame s
        have HCH := Lib.hid (choose_h HDX.out)
        obtain ⟨s', id, f, is, hR⟩ : ∃ s' id f is, chooseP s = (s', id, f, is) := ⟨_, _, _, _, rfl⟩
        rw [hR] at hps hfr HCH
        have HFR : Hid (s'.room = n ∧ s'.W.length ≤ j + 1) := Lib.hid ⟨hfr.1.trans HROOM.out, by have := HW.out; have := congrArg List.length hfr.2; simp only at this; omega⟩
        have HPS2 := Lib.hid hps
        clear hR hps hfr d1
        cases is with
        | false =>
          have hs3 : Hid (SInv sq s' Q r p D kw kc) := HPS2
          go_wp2_with (first | (refine lnIf (.load 43 (.tmp 42)) rfl ?_; refine wpList_load_mid rfl 43 (.tmp 42) rfl b (off + j * 16) rfl [.int .i64 d, .int .i64 g, .bool c, .int .i64 x.id, .int .i64 x.layer, .bool x.key, .bool x.pk.mr, .int .u8 x.pk.ty, .int .u16 x.pk.sq, .int .u32 x.pk.st, .int .u32 x.pk.sc, .slice os x.pk.ss.length ks, .bool x.pk.has, .int .u16 x.pk.pr, .slice oe x.pk.ex.length ke, .slice ol x.pk.pl.length kl] _ HRG.out Try.underlying43 rfl (by kernel_rfl) ?_) | (refine lnIf (.store 43 (.tmp 12) (.tmp 43)) rfl ?_; refine ln_store_new rfl 43 (.tmp 12) (.tmp 43) rfl wr _ #[.int .i64 d, .int .i64 g, .bool c, .int .i64 x.id, .int .i64 x.layer, .bool x.key, .bool x.pk.mr, .int .u8 x.pk.ty, .int .u16 x.pk.sq, .int .u32 x.pk.st, .int .u32 x.pk.sc, .slice os x.pk.ss.length ks, .bool x.pk.has, .int .u16 x.pk.pr, .slice oe x.pk.ex.length ke, .slice ol x.pk.pl.length kl] rfl rfl rfl (by kernel_rfl) rfl rfl ?_) | (go_at_call 14; ((with_reducible refine (HCH.out).mono ?_); rintro e w4 ⟨rfl, h4, t4⟩; have H4 := Lib.hid h4; have P4 := Lib.hid (HPX.out.stay t4); have B4 := Lib.hid (t4.blk (List.mem_cons_of_mem _ HBF.out) HBC.out); have M4 := Lib.hid (HMP.out.sameS (t4.2 MB (List.mem_cons_of_mem _ HMF.out))); clear h4 t4)))
          go_roundw
          case rel => exact ⟨j + 1, s', Q, r, p, D, kw, kc, _, by omega, by go_num, rfl, rfl, by omega, by omega, HFR.out.1, HFR.out.2, hs3.out, H4.out, P4.out, List.mem_cons_of_mem _ HBF.out, List.mem_cons_of_mem _ HMF.out, B4.out, M4.out, HNE.out, HNE2.out⟩
          case measure => simp [intOf]; omega
        | true =>
          by_cases hf : f = 0
          · subst hf
            have hs3 : Hid (SInv sq s' (Q ++ [id]) r p D kw kc) := HPS2
            go_wp2_with (first | (refine lnIf (.load 43 (.tmp 42)) rfl ?_; refine wpList_load_mid rfl 43 (.tmp 42) rfl b (off + j * 16) rfl [.int .i64 d, .int .i64 g, .bool c, .int .i64 x.id, .int .i64 x.layer, .bool x.key, .bool x.pk.mr, .int .u8 x.pk.ty, .int .u16 x.pk.sq, .int .u32 x.pk.st, .int .u32 x.pk.sc, .slice os x.pk.ss.length ks, .bool x.pk.has, .int .u16 x.pk.pr, .slice oe x.pk.ex.length ke, .slice ol x.pk.pl.length kl] _ HRG.out Try.underlying43 rfl (by kernel_rfl) ?_) | (refine lnIf (.store 43 (.tmp 12) (.tmp 43)) rfl ?_; refine ln_store_new rfl 43 (.tmp 12) (.tmp 43) rfl wr _ #[.int .i64 d, .int .i64 g, .bool c, .int .i64 x.id, .int .i64 x.layer, .bool x.key, .bool x.pk.mr, .int .u8 x.pk.ty, .int .u16 x.pk.sq, .int .u32 x.pk.st, .int .u32 x.pk.sc, .slice os x.pk.ss.length ks, .bool x.pk.has, .int .u16 x.pk.pr, .slice oe x.pk.ex.length ke, .slice ol x.pk.pl.length kl] rfl rfl rfl (by kernel_rfl) rfl rfl ?_) | (go_at_call 14; ((with_reducible refine (HCH.out).mono ?_); rintro e w4 ⟨rfl, h4, t4⟩; have H4 := Lib.hid h4; have P4 := Lib.hid (HPX.out.stay t4); have B4 := Lib.hid (t4.blk (List.mem_cons_of_mem _ HBF.out) HBC.out); have M4 := Lib.hid (HMP.out.sameS (t4.2 MB (List.mem_cons_of_mem _ HMF.out))); clear h4 t4)) | (at_builtin; (refine wpList_append_row _ rfl (.tmp 65) (.tmp 67) 86 rfl w.heap.size 3 i0 (.int .i64 0) 1 8 Try.underlying86 hi hz0 hz1 hz2 rfl (by decide) _ Q rfl (P4.out.row.on (More.alloc w4 (.cells #[.int .i64 id] 3))) w4.heap.size [.int .i64 id] id rfl rfl (ln_new_cells rfl) (by simp [Value.oneCell']) (fun _ _ => rfl) (fun b h => h.elim) (by decide) (by omega) (H4.out.more.al _).size ?_; intro v8 w8 ho8 hg8 hb8; have R8 := Lib.hid ho8; have L8 := Lib.hid ((H4.out.on (More.alloc w4 (.cells #[.int .i64 id] 3))).grown P4.out.own hg8 hb8 (fun b hb => ho8.lt hb)); have B8 := Lib.hid ((Away.of_grown hg8).blk (blk_alloc B4.out (.cells #[.int .i64 id] 3)) HNE.out); have M8 := Lib.hid ((M4.out.more (More.alloc w4 (.cells #[.int .i64 id] 3))).away (Away.of_grown hg8) HNE2.out); have N8 : Hid (v8.ownBlock ≠ some w.heap.size) := Lib.hid (by rcases hb8 with e | e; rw [e]; exact HNE.out; rw [e]; intro e2; injection e2 with e2; have := H4.out.more.size; simp at e2; omega); have N9 : Hid (v8.ownBlock ≠ some MB) := Lib.hid (by rcases hb8 with e | e; rw [e]; exact HNE2.out; rw [e]; intro e2; injection e2 with e2; have := M4.out.lt; simp at e2; omega); obtain ⟨o8, n8, c8, rfl, hn8, hn9⟩ := ho8.shape; clear ho8 hg8 hb8 hn8 hn9)))
            go_roundw
            case rel =>
              obtain ⟨F', l8, hF', hsub⟩ := L8.out
              exact ⟨j + 1, s', Q ++ [id], r, p, D, kw, kc, F', by omega, by go_num, rfl, rfl, by simp; omega, by omega, HFR.out.1, HFR.out.2, hs3.out, l8, ⟨R8.out, hF'⟩, hsub _ (List.mem_cons_of_mem _ HBF.out), hsub _ (List.mem_cons_of_mem _ HMF.out), B8.out, M8.out, N8.out, N9.out⟩
            case measure => simp [intOf]; omega
          · have hfb : (f == 0) = false := by simpa using hf
            have hs3 : Hid (SInv sq s' Q r p D kw kc) := Lib.hid (by have := HPS2.out; simp only [hfb, Bool.and_false, Bool.false_eq_true, if_false] at this; exact this)
            clear hf
            go_wp2_with (first | (refine lnIf (.load 43 (.tmp 42)) rfl ?_; refine wpList_load_mid rfl 43 (.tmp 42) rfl b (off + j * 16) rfl [.int .i64 d, .int .i64 g, .bool c, .int .i64 x.id, .int .i64 x.layer, .bool x.key, .bool x.pk.mr, .int .u8 x.pk.ty, .int .u16 x.pk.sq, .int .u32 x.pk.st, .int .u32 x.pk.sc, .slice os x.pk.ss.length ks, .bool x.pk.has, .int .u16 x.pk.pr, .slice oe x.pk.ex.length ke, .slice ol x.pk.pl.length kl] _ HRG.out Try.underlying43 rfl (by kernel_rfl) ?_) | (refine lnIf (.store 43 (.tmp 12) (.tmp 43)) rfl ?_; refine ln_store_new rfl 43 (.tmp 12) (.tmp 43) rfl wr _ #[.int .i64 d, .int .i64 g, .bool c, .int .i64 x.id, .int .i64 x.layer, .bool x.key, .bool x.pk.mr, .int .u8 x.pk.ty, .int .u16 x.pk.sq, .int .u32 x.pk.st, .int .u32 x.pk.sc, .slice os x.pk.ss.length ks, .bool x.pk.has, .int .u16 x.pk.pr, .slice oe x.pk.ex.length ke, .slice ol x.pk.pl.length kl] rfl rfl rfl (by kernel_rfl) rfl rfl ?_) | (go_at_call 14; ((with_reducible refine (HCH.out).mono ?_); rintro e w4 ⟨rfl, h4, t4⟩; have H4 := Lib.hid h4; have P4 := Lib.hid (HPX.out.stay t4); have B4 := Lib.hid (t4.blk (List.mem_cons_of_mem _ HBF.out) HBC.out); have M4 := Lib.hid (HMP.out.sameS (t4.2 MB (List.mem_cons_of_mem _ HMF.out))); clear h4 t4)))
            go_roundw
            case rel => exact ⟨j + 1, s', Q, r, p, D, kw, kc, _, by omega, by go_num, rfl, rfl, by omega, by omega, HFR.out.1, HFR.out.2, hs3.out, H4.out, P4.out, List.mem_cons_of_mem _ HBF.out, List.mem_cons_of_mem _ HMF.out, B4.out, M4.out, HNE.out, HNE2.out⟩
            case measure => simp [intOf]; omega
      by_cases d2 : d = 2
      · have hd1 : (d == 1) = false := by simpa using d1
        have hd2 : (d == 2) = true := by simpa using d2
        have hps := HI.out.rewrite HH.out.ok (by rw [HROOM.out]; exact h1)
        have hfr := rewriteP_frame s
        have HCH := Lib.hid (rewrite_h HDX.out)
        obtain ⟨s', id, dr, did, hR⟩ : ∃ s' id dr did, rewriteP s = (s', id, dr, did) := ⟨_, _, _, _, rfl⟩
        rw [hR] at hps hfr HCH
        have HFR : Hid (s'.room = n ∧ s'.W.length ≤ j + 1) := Lib.hid ⟨hfr.1.trans HROOM.out, by have := HW.out; have := congrArg List.length hfr.2; simp only at this; omega⟩
        have HPS2 := Lib.hid hps
        clear hR hps hfr d1 d2
        cases did with
        | true =>
          cases dr with
          | true =>
            go_wp2_with (first | (refine lnIf (.load 43 (.tmp 42)) rfl ?_; refine wpList_load_mid rfl 43 (.tmp 42) rfl b (off + j * 16) rfl [.int .i64 d, .int .i64 g, .bool c, .int .i64 x.id, .int .i64 x.layer, .bool x.key, .bool x.pk.mr, .int .u8 x.pk.ty, .int .u16 x.pk.sq, .int .u32 x.pk.st, .int .u32 x.pk.sc, .slice os x.pk.ss.length ks, .bool x.pk.has, .int .u16 x.pk.pr, .slice oe x.pk.ex.length ke, .slice ol x.pk.pl.length kl] _ HRG.out Try.underlying43 rfl (by kernel_rfl) ?_) | (refine lnIf (.store 43 (.tmp 12) (.tmp 43)) rfl ?_; refine ln_store_new rfl 43 (.tmp 12) (.tmp 43) rfl wr _ #[.int .i64 d, .int .i64 g, .bool c, .int .i64 x.id, .int .i64 x.layer, .bool x.key, .bool x.pk.mr, .int .u8 x.pk.ty, .int .u16 x.pk.sq, .int .u32 x.pk.st, .int .u32 x.pk.sc, .slice os x.pk.ss.length ks, .bool x.pk.has, .int .u16 x.pk.pr, .slice oe x.pk.ex.length ke, .slice ol x.pk.pl.length kl] rfl rfl rfl (by kernel_rfl) rfl rfl ?_) | (go_at_call 15; ((with_reducible refine (HCH.out).mono ?_); rintro e w4 ⟨rfl, h4, t4⟩; have H4 := Lib.hid h4; have P4 := Lib.hid (HPX.out.stay t4); have B4 := Lib.hid (t4.blk (List.mem_cons_of_mem _ HBF.out) HBC.out); have M4 := Lib.hid (HMP.out.sameS (t4.2 MB (List.mem_cons_of_mem _ HMF.out))); obtain ⟨w7, hup7, hm7, ha7, hs7⟩ := M4.out.update keyI64S Try.underlying33 id 1; rw [← dropM_snoc] at hm7; have M7 := Lib.hid hm7; have A7 : Hid (Away (fun b => b ∈ wr.heap.size :: F) w4 w7) := Lib.hid (ha7.mono (fun b hb => (by rw [hb]; exact List.mem_cons_of_mem _ HMF.out))); have H7 := Lib.hid (H4.out.mut A7.out); have P7 : Hid (RwI w w7 (.slice ov Q.length cv) Q (wr.heap.size :: F)) := Lib.hid (⟨(P4.out.row.stepI ha7 (fun b hb e => HNE2.out (by rw [← e]; exact hb))), P4.out.own⟩); have B7 := Lib.hid (ha7.blk B4.out (by omega)); clear hm7 ha7 hs7; clear h4 t4)))
            go_roundw
            case rel =>
              obtain ⟨kc', hs3⟩ := HPS2.out
              exact ⟨j + 1, s', Q, (r + 1), p, (D ++ [id]), kw, kc', _, by omega, by go_num, by go_num, rfl, by omega, by omega, HFR.out.1, HFR.out.2, hs3, H7.out, P7.out, List.mem_cons_of_mem _ HBF.out, List.mem_cons_of_mem _ HMF.out, B7.out, M7.out, HNE.out, HNE2.out⟩
            case measure => simp [intOf]; omega
          | false =>
            go_wp2_with (first | (refine lnIf (.load 43 (.tmp 42)) rfl ?_; refine wpList_load_mid rfl 43 (.tmp 42) rfl b (off + j * 16) rfl [.int .i64 d, .int .i64 g, .bool c, .int .i64 x.id, .int .i64 x.layer, .bool x.key, .bool x.pk.mr, .int .u8 x.pk.ty, .int .u16 x.pk.sq, .int .u32 x.pk.st, .int .u32 x.pk.sc, .slice os x.pk.ss.length ks, .bool x.pk.has, .int .u16 x.pk.pr, .slice oe x.pk.ex.length ke, .slice ol x.pk.pl.length kl] _ HRG.out Try.underlying43 rfl (by kernel_rfl) ?_) | (refine lnIf (.store 43 (.tmp 12) (.tmp 43)) rfl ?_; refine ln_store_new rfl 43 (.tmp 12) (.tmp 43) rfl wr _ #[.int .i64 d, .int .i64 g, .bool c, .int .i64 x.id, .int .i64 x.layer, .bool x.key, .bool x.pk.mr, .int .u8 x.pk.ty, .int .u16 x.pk.sq, .int .u32 x.pk.st, .int .u32 x.pk.sc, .slice os x.pk.ss.length ks, .bool x.pk.has, .int .u16 x.pk.pr, .slice oe x.pk.ex.length ke, .slice ol x.pk.pl.length kl] rfl rfl rfl (by kernel_rfl) rfl rfl ?_) | (go_at_call 15; ((with_reducible refine (HCH.out).mono ?_); rintro e w4 ⟨rfl, h4, t4⟩; have H4 := Lib.hid h4; have P4 := Lib.hid (HPX.out.stay t4); have B4 := Lib.hid (t4.blk (List.mem_cons_of_mem _ HBF.out) HBC.out); have M4 := Lib.hid (HMP.out.sameS (t4.2 MB (List.mem_cons_of_mem _ HMF.out))); clear h4 t4)))
            go_roundw
            case rel =>
              obtain ⟨kc', hs3⟩ := HPS2.out
              exact ⟨j + 1, s', Q, (r + 1), p, D, kw, kc', _, by omega, by go_num, by go_num, rfl, by omega, by omega, HFR.out.1, HFR.out.2, hs3, H4.out, P4.out, List.mem_cons_of_mem _ HBF.out, List.mem_cons_of_mem _ HMF.out, B4.out, M4.out, HNE.out, HNE2.out⟩
            case measure => simp [intOf]; omega
        | false =>
          cases dr with
          | true =>
            go_wp2_with (first | (refine lnIf (.load 43 (.tmp 42)) rfl ?_; refine wpList_load_mid rfl 43 (.tmp 42) rfl b (off + j * 16) rfl [.int .i64 d, .int .i64 g, .bool c, .int .i64 x.id, .int .i64 x.layer, .bool x.key, .bool x.pk.mr, .int .u8 x.pk.ty, .int .u16 x.pk.sq, .int .u32 x.pk.st, .int .u32 x.pk.sc, .slice os x.pk.ss.length ks, .bool x.pk.has, .int .u16 x.pk.pr, .slice oe x.pk.ex.length ke, .slice ol x.pk.pl.length kl] _ HRG.out Try.underlying43 rfl (by kernel_rfl) ?_) | (refine lnIf (.store 43 (.tmp 12) (.tmp 43)) rfl ?_; refine ln_store_new rfl 43 (.tmp 12) (.tmp 43) rfl wr _ #[.int .i64 d, .int .i64 g, .bool c, .int .i64 x.id, .int .i64 x.layer, .bool x.key, .bool x.pk.mr, .int .u8 x.pk.ty, .int .u16 x.pk.sq, .int .u32 x.pk.st, .int .u32 x.pk.sc, .slice os x.pk.ss.length ks, .bool x.pk.has, .int .u16 x.pk.pr, .slice oe x.pk.ex.length ke, .slice ol x.pk.pl.length kl] rfl rfl rfl (by kernel_rfl) rfl rfl ?_) | (go_at_call 15; ((with_reducible refine (HCH.out).mono ?_); rintro e w4 ⟨rfl, h4, t4⟩; have H4 := Lib.hid h4; have P4 := Lib.hid (HPX.out.stay t4); have B4 := Lib.hid (t4.blk (List.mem_cons_of_mem _ HBF.out) HBC.out); have M4 := Lib.hid (HMP.out.sameS (t4.2 MB (List.mem_cons_of_mem _ HMF.out))); obtain ⟨w7, hup7, hm7, ha7, hs7⟩ := M4.out.update keyI64S Try.underlying33 id 1; rw [← dropM_snoc] at hm7; have M7 := Lib.hid hm7; have A7 : Hid (Away (fun b => b ∈ wr.heap.size :: F) w4 w7) := Lib.hid (ha7.mono (fun b hb => (by rw [hb]; exact List.mem_cons_of_mem _ HMF.out))); have H7 := Lib.hid (H4.out.mut A7.out); have P7 : Hid (RwI w w7 (.slice ov Q.length cv) Q (wr.heap.size :: F)) := Lib.hid (⟨(P4.out.row.stepI ha7 (fun b hb e => HNE2.out (by rw [← e]; exact hb))), P4.out.own⟩); have B7 := Lib.hid (ha7.blk B4.out (by omega)); clear hm7 ha7 hs7; clear h4 t4)))
            go_roundw
            case rel =>
              obtain ⟨kc', hs3⟩ := HPS2.out
              exact ⟨j + 1, s', Q, r, p, (D ++ [id]), kw, kc', _, by omega, by go_num, rfl, rfl, by omega, by omega, HFR.out.1, HFR.out.2, hs3, H7.out, P7.out, List.mem_cons_of_mem _ HBF.out, List.mem_cons_of_mem _ HMF.out, B7.out, M7.out, HNE.out, HNE2.out⟩
            case measure => simp [intOf]; omega
          | false =>
            go_wp2_with (first | (refine lnIf (.load 43 (.tmp 42)) rfl ?_; refine wpList_load_mid rfl 43 (.tmp 42) rfl b (off + j * 16) rfl [.int .i64 d, .int .i64 g, .bool c, .int .i64 x.id, .int .i64 x.layer, .bool x.key, .bool x.pk.mr, .int .u8 x.pk.ty, .int .u16 x.pk.sq, .int .u32 x.pk.st, .int .u32 x.pk.sc, .slice os x.pk.ss.length ks, .bool x.pk.has, .int .u16 x.pk.pr, .slice oe x.pk.ex.length ke, .slice ol x.pk.pl.length kl] _ HRG.out Try.underlying43 rfl (by kernel_rfl) ?_) | (refine lnIf (.store 43 (.tmp 12) (.tmp 43)) rfl ?_; refine ln_store_new rfl 43 (.tmp 12) (.tmp 43) rfl wr _ #[.int .i64 d, .int .i64 g, .bool c, .int .i64 x.id, .int .i64 x.layer, .bool x.key, .bool x.pk.mr, .int .u8 x.pk.ty, .int .u16 x.pk.sq, .int .u32 x.pk.st, .int .u32 x.pk.sc, .slice os x.pk.ss.length ks, .bool x.pk.has, .int .u16 x.pk.pr, .slice oe x.pk.ex.length ke, .slice ol x.pk.pl.length kl] rfl rfl rfl (by kernel_rfl) rfl rfl ?_) | (go_at_call 15; ((with_reducible refine (HCH.out).mono ?_); rintro e w4 ⟨rfl, h4, t4⟩; have H4 := Lib.hid h4; have P4 := Lib.hid (HPX.out.stay t4); have B4 := Lib.hid (t4.blk (List.mem_cons_of_mem _ HBF.out) HBC.out); have M4 := Lib.hid (HMP.out.sameS (t4.2 MB (List.mem_cons_of_mem _ HMF.out))); clear h4 t4)))
            go_roundw
            case rel =>
              obtain ⟨kc', hs3⟩ := HPS2.out
              exact ⟨j + 1, s', Q, r, p, D, kw, kc', _, by omega, by go_num, rfl, rfl, by omega, by omega, HFR.out.1, HFR.out.2, hs3, H4.out, P4.out, List.mem_cons_of_mem _ HBF.out, List.mem_cons_of_mem _ HMF.out, B4.out, M4.out, HNE.out, HNE2.out⟩
            case measure => simp [intOf]; omega
      have hd1 : (d == 1) = false := by simpa using d1
      have hd2 : (d == 2) = false := by simpa using d2
      have hps := HI.out.do' ⟨d, g, c, x⟩ d1 d2 HPO.out
      have hfr := doP_frame s ⟨d, g, c, x⟩ p
      obtain ⟨s', b', hR⟩ : ∃ s' b', doP s ⟨d, g, c, x⟩ p = (s', b') := ⟨_, _, rfl⟩
      rw [hR] at hfr hps
      have HR := Lib.hid hR
      have HPS2 := Lib.hid hps
      have HFR : Hid (s'.room = n ∧ s'.W.length ≤ j + 1) := Lib.hid ⟨hfr.1.trans HROOM.out, by have := HW.out; have := hfr.2; simp only at this; omega⟩
      have HDO := Lib.hid (do_h HDX.out (by have := HW.out; omega) d g c x p os oe ol ks ke kl (HPS.out _ (HH.out.more.trans (More.alloc _ _))) HPO.out HPM.out)
      clear hR hfr hps d1 d2
      cases b' with
      | true =>
        go_wp2_with (first | (refine lnIf (.load 43 (.tmp 42)) rfl ?_; refine wpList_load_mid rfl 43 (.tmp 42) rfl b (off + j * 16) rfl [.int .i64 d, .int .i64 g, .bool c, .int .i64 x.id, .int .i64 x.layer, .bool x.key, .bool x.pk.mr, .int .u8 x.pk.ty, .int .u16 x.pk.sq, .int .u32 x.pk.st, .int .u32 x.pk.sc, .slice os x.pk.ss.length ks, .bool x.pk.has, .int .u16 x.pk.pr, .slice oe x.pk.ex.length ke, .slice ol x.pk.pl.length kl] _ HRG.out Try.underlying43 rfl (by kernel_rfl) ?_) | (refine lnIf (.store 43 (.tmp 12) (.tmp 43)) rfl ?_; refine ln_store_new rfl 43 (.tmp 12) (.tmp 43) rfl wr _ #[.int .i64 d, .int .i64 g, .bool c, .int .i64 x.id, .int .i64 x.layer, .bool x.key, .bool x.pk.mr, .int .u8 x.pk.ty, .int .u16 x.pk.sq, .int .u32 x.pk.st, .int .u32 x.pk.sc, .slice os x.pk.ss.length ks, .bool x.pk.has, .int .u16 x.pk.pr, .slice oe x.pk.ex.length ke, .slice ol x.pk.pl.length kl] rfl rfl rfl (by kernel_rfl) rfl rfl ?_) | (refine lnIf (.load 43 (.tmp 12)) rfl ?_; refine lnLoad rfl 43 (.tmp 12) rfl wr.heap.size 43 _ _ (blk_new wr (.cells #[.int .i64 d, .int .i64 g, .bool c, .int .i64 x.id, .int .i64 x.layer, .bool x.key, .bool x.pk.mr, .int .u8 x.pk.ty, .int .u16 x.pk.sq, .int .u32 x.pk.st, .int .u32 x.pk.sc, .slice os x.pk.ss.length ks, .bool x.pk.has, .int .u16 x.pk.pr, .slice oe x.pk.ex.length ke, .slice ol x.pk.pl.length kl] 43)) rfl Try.underlying43 rfl (by kernel_rfl) ?_) | (go_at_call 19; ((with_reducible refine (HDO.out).mono ?_); rintro e w4 ⟨rfl, h4, t4⟩; rw [HR.out] at h4; rw [HR.out]; have H4 := Lib.hid h4; have P4 := Lib.hid (HPX.out.stay t4); have B4 := Lib.hid (t4.blk (List.mem_cons_of_mem _ HBF.out) HBC.out); have M4 := Lib.hid (HMP.out.sameS (t4.2 MB (List.mem_cons_of_mem _ HMF.out))); clear h4 t4)))
        go_roundw
        case rel =>
          obtain ⟨kw', kc', hs3⟩ := HPS2.out
          exact ⟨j + 1, s', Q, r, p + 1, D, kw', kc', _, by omega, by go_num, rfl, by go_num, by omega, by omega, HFR.out.1, HFR.out.2, hs3, H4.out, P4.out, List.mem_cons_of_mem _ HBF.out, List.mem_cons_of_mem _ HMF.out, B4.out, M4.out, HNE.out, HNE2.out⟩
        case measure => simp [intOf]; omega
      | false =>
        go_wp2_with (first | (refine lnIf (.load 43 (.tmp 42)) rfl ?_; refine wpList_load_mid rfl 43 (.tmp 42) rfl b (off + j * 16) rfl [.int .i64 d, .int .i64 g, .bool c, .int .i64 x.id, .int .i64 x.layer, .bool x.key, .bool x.pk.mr, .int .u8 x.pk.ty, .int .u16 x.pk.sq, .int .u32 x.pk.st, .int .u32 x.pk.sc, .slice os x.pk.ss.length ks, .bool x.pk.has, .int .u16 x.pk.pr, .slice oe x.pk.ex.length ke, .slice ol x.pk.pl.length kl] _ HRG.out Try.underlying43 rfl (by kernel_rfl) ?_) | (refine lnIf (.store 43 (.tmp 12) (.tmp 43)) rfl ?_; refine ln_store_new rfl 43 (.tmp 12) (.tmp 43) rfl wr _ #[.int .i64 d, .int .i64 g, .bool c, .int .i64 x.id, .int .i64 x.layer, .bool x.key, .bool x.pk.mr, .int .u8 x.pk.ty, .int .u16 x.pk.sq, .int .u32 x.pk.st, .int .u32 x.pk.sc, .slice os x.pk.ss.length ks, .bool x.pk.has, .int .u16 x.pk.pr, .slice oe x.pk.ex.length ke, .slice ol x.pk.pl.length kl] rfl rfl rfl (by kernel_rfl) rfl rfl ?_) | (refine lnIf (.load 43 (.tmp 12)) rfl ?_; refine lnLoad rfl 43 (.tmp 12) rfl wr.heap.size 43 _ _ (blk_new wr (.cells #[.int .i64 d, .int .i64 g, .bool c, .int .i64 x.id, .int .i64 x.layer, .bool x.key, .bool x.pk.mr, .int .u8 x.pk.ty, .int .u16 x.pk.sq, .int .u32 x.pk.st, .int .u32 x.pk.sc, .slice os x.pk.ss.length ks, .bool x.pk.has, .int .u16 x.pk.pr, .slice oe x.pk.ex.length ke, .slice ol x.pk.pl.length kl] 43)) rfl Try.underlying43 rfl (by kernel_rfl) ?_) | (go_at_call 19; ((with_reducible refine (HDO.out).mono ?_); rintro e w4 ⟨rfl, h4, t4⟩; rw [HR.out] at h4; rw [HR.out]; have H4 := Lib.hid h4; have P4 := Lib.hid (HPX.out.stay t4); have B4 := Lib.hid (t4.blk (List.mem_cons_of_mem _ HBF.out) HBC.out); have M4 := Lib.hid (HMP.out.sameS (t4.2 MB (List.mem_cons_of_mem _ HMF.out))); clear h4 t4)))
        go_roundw
        case rel =>
          obtain ⟨kw', kc', hs3⟩ := HPS2.out
          exact ⟨j + 1, s', Q, r, p, D, kw', kc', _, by omega, by go_num, rfl, rfl, by omega, by omega, HFR.out.1, HFR.out.2, hs3, H4.out, P4.out, List.mem_cons_of_mem _ HBF.out, List.mem_cons_of_mem _ HMF.out, B4.out, M4.out, HNE.out, HNE2.out⟩
        case measure => simp [intOf]; omega
    · obtain rfl : j = l.length := by omega
      have hnl : ¬ (l.length : Int) < (l.length : Int) := by omega
      have hrQ : r ≤ Q.length := HI.out.le
      have hrQi : decide ((Q.length : Int) < (r : Int)) = false := decide_eq_false (by omega)
      have hrQn : decide (Q.length < r) = false := decide_eq_false (by omega)
      have hrQm : ¬ (Q.length : Int) < (r : Int) := by omega
      go_wp2_with (go_at_call 23; ((with_reducible refine (written_h HH.out (by have := HW.out; omega)).mono ?_); rintro e w5 ⟨⟨v5, rfl, r5⟩, h5, t5, m5⟩; obtain ⟨ow, cw, rfl, hlw63, how⟩ := lnOuts (SlP.to_ro (r5.sl (by decide))); have HOW := Lib.hid how; have P5 := Lib.hid (HP.out.stay t5); have B5 := Lib.hid (t5.blk HBF.out HBC0.out); have MP5 := Lib.hid (HMP0.out.sameS (t5.2 MB HMF.out)); have M5 := Lib.hid (h5.more); clear r5 h5 t5 m5 how))
      obtain ⟨W5, hW5⟩ : ∃ W5, W5 = w5 := ⟨_, rfl⟩
      rw [← hW5] at HOW P5 B5 M5 MP5
      rw [← hW5]
      clear hW5 HH HP HBF HBC0 HNE HNE2 HMF HMP0
      go_loopw [19, 93] (fun la ix wr => ∃ (j a : Nat), j ≤ s.W.length ∧ ix = .int .i64 j ∧ la = .int .i64 a ∧ (∀ i k', i < j → kw[i]? = some k' → k' < a) ∧ (∀ k', kw[j]? = some k' → a ≤ k') ∧ More W5 wr) (fun _ ix _ => s.W.length - (intOf ix).toNat)
      case atStart => exact ⟨0, 0, by omega, rfl, rfl, fun i k' h => by omega, fun k' _ => by omega, More.refl _⟩
      case round =>
        obtain ⟨j, a, hj, rfl, rfl, hbel, hab, hmr⟩ := hrel
        have HMR := Lib.hid hmr
        have HBEL := Lib.hid hbel
        have HAB := Lib.hid hab
        clear hmr hbel hab
        by_cases hlt : j < s.W.length
        · obtain ⟨k, hk, hQk, q, eo2, hsq, hr2, hok2⟩ := HI.out.w.at j hlt
          obtain ⟨b5, off5, ob, cb, rfl, hb5, c0, c1, hs5⟩ := HOW.out j hlt
          have egd : s.W.getD j out0 = s.W[j] := by simp [hlt]
          rw [egd] at c0 c1 hs5
          have hkr : k < r := HI.out.lt k (List.mem_append_left _ (List.mem_of_getElem? hk))
          have HGAP := Lib.hid (fun (a2 : Nat) (h1 : a ≤ a2) (h2 : a2 < k) => HI.out.gap (a := a2) hlt hk hQk (fun i k' hi hk' => Nat.lt_of_lt_of_le (HBEL.out i k' hi hk') h1) h2)
          have hak : a ≤ k := HAB.out k hk
          have HK := Lib.hid hk
          have hpw := (List.pairwise_append.1 HI.out.asc).1
          have HPW := Lib.hid hpw
          have hqk : Q.getD k 0 = (s.W[j]).1 := by rw [List.getD_eq_getElem?_getD, hQk]; rfl
          have HQK := Lib.hid hqk
          clear egd hQk hk hpw hqk
          generalize s.W[j] = o at *
          obtain ⟨o1, o2⟩ := o
          simp only at c0 c1 hs5 eo2 HGAP HQK
          have d0 : wr.cell? ⟨b5, off5 + j * 2, none⟩ = some (.int .i64 o1) := by rw [HMR.out.cells _ _ hb5]; exact c0
          have d1 : wr.cell? ⟨b5, off5 + j * 2 + 1, none⟩ = some (.slice ob o2.length cb) := by rw [HMR.out.cells _ _ hb5]; exact c1
          have hbw : b5 < wr.heap.size := Nat.lt_of_lt_of_le hb5 HMR.out.size
          have hjl : (j : Int) < (s.W.length : Int) := by omega
          have hlen : ((pkB q).length : Int) ≤ 200 := by rw [pkB_len]; exact ((rightH_iff _).1 hr2).2.2.2.2
          have hrd : readH o2 = (q, 0) := by
            rw [eo2]
            exact read_pre hr2 hok2 q.pl (by have := hlen; unfold pkB at this; rw [List.length_append] at this; omega)
          have hl2 : ¬ (200 : Int) < (o2.length : Int) := by rw [eo2]; omega
          have hby : Byt o2 := by rw [eo2]; exact ln_pkB hok2
          have HRD := Lib.hid (fun (w6 : World) (m6 : More W5 w6) => by
            have := ReadH_short _ o2 w6 (hs5.keep m6) hby hl2
            rw [hrd] at this
            exact this)
          have HSQ2 := Lib.hid hsq
          clear hlen hrd hl2 hby hs5 eo2 hsq hr2 hok2 c0 c1
          go_wp2
          obtain ⟨W6, hW6⟩ : ∃ W6, wr.alloc (.cells #[.int .i64 o1, .slice ob o2.length cb] 78) = W6 := ⟨_, rfl⟩
          have X6 : Hid (W6.heap[wr.heap.size]? = some (.cells #[.int .i64 o1, .slice ob o2.length cb] 78 (0, 0))) := Lib.hid (by rw [← hW6]; exact blk_new wr _)
          have M6 : Hid (More W5 W6) := Lib.hid (by rw [← hW6]; exact HMR.out.al _)
          rw [hW6]
          clear hW6 d0 d1
          obtain ⟨wo, rfl⟩ : ∃ wo : World, wo = wr := ⟨_, rfl⟩
          go_loopw [19] (fun la wr2 => ∃ a2 : Nat, la = .int .i64 a2 ∧ a ≤ a2 ∧ a2 ≤ k ∧ More W6 wr2) (fun la _ => k - (intOf la).toNat)
          case atStart => exact ⟨a, rfl, by omega, hak, More.refl _⟩
          case round =>
            obtain ⟨a2, rfl, ha1, ha2, hm2⟩ := hrel
            have HM2 := Lib.hid hm2
            clear hm2
            have hrQ2 : r ≤ Q.length := HI.out.le
            have ha2r : (a2 : Int) < (r : Int) := by omega
            have ha2n : a2 < r := by omega
            have ha2q : (a2 : Int) < (Q.length : Int) := by omega
            obtain ⟨g, cap5, hge, hg, hcell⟩ := P5.out.get a2 (by omega)
            obtain rfl : ov = some ⟨g, 0, none⟩ := by injection hge
            have HCE := Lib.hid hcell
            have HG := Lib.hid hg
            clear hge hcell hg
            have C2 : ∀ x : Later wr, x.w'.cell? ⟨wo.heap.size, 0, none⟩ = some (.int .i64 o1) := fun x => blk_cell (blk_more (HM2.out.trans x.h) X6.out) 0 rfl
            by_cases hlt2 : a2 < k
            · obtain ⟨hD, hne⟩ := HGAP.out a2 ha1 hlt2
              have HDG := Lib.hid (dropM_get hD)
              generalize Q.getD a2 0 = qa at *
              have hneb : (qa != o1) = true := by simpa using hne
              have C1 : ∀ x : Later wr, x.w'.cell? ⟨g, a2, none⟩ = some (.int .i64 qa) := fun x => by rw [((M6.out.trans HM2.out).trans x.h).cells _ _ HG.out]; exact HCE.out
              clear hD hne
              go_wp2_with fail
              refine wp_region_later _ (More.refl _) (by kernel_rfl) (by kernel_rfl) ?_
              repeat (go_big_quiet_step (fail))
              refine wpQuiet_nil ?_
              intro _ hw'
              obtain ⟨x9, rfl⟩ := hw'
              have c9 := C1 x9
              have hlk := (MP5.out.more (M6.out.trans (HM2.out.trans x9.h))).look keyI64S Try.underlying33 (zero_intS _) qa false
              rw [HDG.out] at hlk
              simp only [Option.map_some, Option.getD_some, if_false] at hlk
              go_wp2
              go_roundw
              case rel => exact ⟨a2 + 1, by go_num, by omega, by omega, HM2.out.trans x9.h⟩
              case measure => simp [intOf]; omega
            · obtain rfl : a2 = k := by omega
              have hqo := HQK.out
              have C1 : ∀ x : Later wr, x.w'.cell? ⟨g, a2, none⟩ = some (.int .i64 o1) := fun x => by rw [((M6.out.trans HM2.out).trans x.h).cells _ _ HG.out, ← hqo]; exact HCE.out
              have hneb : (o1 != o1) = false := by simp
              have HQO := Lib.hid hqo
              clear hqo
              go_wp2_with fail
              refine wp_region_later _ (More.refl _) (by kernel_rfl) (by kernel_rfl) ?_
              repeat (go_big_quiet_step (fail))
              refine wpQuiet_nil ?_
              intro _ hw'
              obtain ⟨x9, rfl⟩ := hw'
              obtain ⟨w9, hw9⟩ : ∃ w9, x9.w' = w9 := ⟨_, rfl⟩
              have M9 : Hid (More wr w9) := Lib.hid (by rw [← hw9]; exact x9.h)
              rw [hw9]
              clear hw9
              have c9 : w9.cell? ⟨wo.heap.size, 1, none⟩ = some (.slice ob o2.length cb) := blk_cell (blk_more (HM2.out.trans M9.out) X6.out) 1 rfl
              have hkr2 : decide ((r : Int) ≤ (a2 : Int)) = false := decide_eq_false (by omega)
              have hkr3 : decide (r ≤ a2) = false := decide_eq_false (by omega)
              go_upto_region 37 with (first | (go_at_call 24; ((with_reducible refine (HRD.out w9 (M6.out.trans (HM2.out.trans M9.out))).mono ?_); rintro e w10 ⟨vs6, ve6, vp6, rfl, s6, m6⟩; have M10 := Lib.hid m6; have q3 : w10.cell? ⟨w.heap.size, 3, none⟩ = some (.int .u16 sq) := blk_cell (blk_more (M6.out.trans (HM2.out.trans (M9.out.trans m6))) B5.out) 3 rfl; have hb10 : w.heap.size < w10.heap.size := blk_lt (blk_more (M6.out.trans (HM2.out.trans (M9.out.trans m6))) B5.out); obtain ⟨⟨ao, ak, rfl, _⟩, ⟨ao2, ak2, rfl, _⟩, ⟨ao3, ak3, rfl, _⟩⟩ := id s6; clear s6 m6)) | (refine lnIf (.store 39 (.tmp 22) (.tmp 122)) rfl ?_; refine ln_store_new rfl 39 (.tmp 22) (.tmp 122) rfl w10 _ #[.bool q.mr, .int .u8 q.ty, .int .u16 q.sq, .int .u32 q.st, .int .u32 q.sc, .slice ao q.ss.length ak, .bool q.has, .int .u16 q.pr, .slice ao2 q.ex.length ak2, .slice ao3 q.pl.length ak3] rfl (by simp [go_sem]) rfl (by kernel_rfl) rfl rfl ?_))
              have ha120 : a2 ≤ 120 := by have := HI.out.le; omega
              obtain ⟨qs, hqs⟩ : ∃ qs, q.sq = qs := ⟨_, rfl⟩
              have hqs2 : qs = (sq + (a2 : Int)) % 65536 := by rw [← hqs]; exact HSQ2.out
              have hqsb : (qs != (sq + (a2 : Int)) % 65536) = false := by simp [hqs2]
              have HQS2 := Lib.hid hqs2
              clear hqs2
              rw [hqs]
              clear hqs
              go_cut [141] from 124 to 140 (fun v wx => v = .bool false ∧ wx = w10.alloc (.cells #[.bool q.mr, .int .u8 q.ty, .int .u16 qs, .int .u32 q.st, .int .u32 q.sc, .slice ao q.ss.length ak, .bool q.has, .int .u16 q.pr, .slice ao2 q.ex.length ak2, .slice ao3 q.pl.length ak3] 39))
              case first =>
                go_wp2_with fail
                go_meet
                refine ⟨?_, rfl⟩
                have hwr : IntKind.u16.wrap (sq + (a2 : Int)) = (sq + (a2 : Int)) % 65536 := by first | rfl | simp [IntKind.wrap] | (unfold IntKind.wrap; simp) | go_num
                rw [hwr, hqsb]
              case rest =>
              obtain ⟨rfl, rfl⟩ := hcut
              go_wp2
              go_roundw
              case rel => exact ⟨j + 1, a2 + 1, by omega, by go_num, by go_num, fun i k' hi hk' => (by
                rcases Nat.lt_or_ge i j with h | h
                · have := HBEL.out i k' h hk'; omega
                · obtain rfl : i = j := by omega
                  rw [HK.out] at hk'
                  injection hk' with hk'
                  omega), fun k' hk' => (by
                obtain ⟨h3, e3⟩ := List.getElem?_eq_some_iff.1 HK.out
                obtain ⟨h4, e4⟩ := List.getElem?_eq_some_iff.1 hk'
                have := List.pairwise_iff_getElem.1 HPW.out j (j + 1) h3 h4 (by omega)
                omega), (M6.out.trans (HM2.out.trans (M9.out.trans M10.out))).al _⟩
              case measure => simp [intOf]; omega
        · obtain rfl : j = s.W.length := by omega
          have hnl2 : ¬ (s.W.length : Int) < (s.W.length : Int) := by omega
          go_wp2
          go_ret
          exact ⟨rfl, M5.out.trans HMR.out⟩
/-- The law. -/
theorem LaneSeqs_law (cs : Array Value) (c : CfS) (v : Value) (l : List ActS) (w : World) (hc : RCfg w cs.toList c) (sl : SlP 16 RAct w v l) :
    Calls Try.prog 7 #[.agg cs, v] w fun e w' => e = .returned (.bool true) ∧ More w w' := by
  obtain ⟨hcs, h1, h2, h3⟩ := hc
  obtain ⟨m, mo, src, sq, st⟩ := c
  obtain rfl : cs = #[.int .i64 m, .int .i64 mo, .int .u32 src, .int .u16 sq, .int .u32 st] := by
    cases cs
    simpa using hcs
  cases hB : cfgB m mo with
  | false =>
    obtain ⟨oa, cap, rfl, _⟩ := acts sl
    exact LaneSeqs_bad m mo src sq st oa l.length cap w hB
  | true =>
    have hB := of_decide_eq_true hB
    obtain ⟨n, rfl⟩ : ∃ n : Nat, m = n := ⟨m.toNat, by omega⟩
    cases hl : lrgA l with
    | true => exact LaneSeqs_large n mo src sq st _ l w (by omega) (by omega) (by omega) (by omega) h2 h1 sl hl
    | false => exact LaneSeqs_main n mo src sq st _ l w (by omega) (by omega) (by omega) (by omega) h2 h1 sl hl
end Go.Proofs.Ytdgmmffedhikcaa
