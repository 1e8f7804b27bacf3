/- Merged from my texts ChunkA, RdP. -/
import Derived.Test.YtlnikmcimmnbmaaMg3
import Derived.Test.YtlnikmcimmnbmaaMg6
/- Chunks: how they read; Right, large, own, the document's Same. -/
namespace Go.Proofs.Ytlnikmcimmnbmaa
set_option linter.unusedSimpArgs false
set_option linter.unusedVariables false
open Go.RowKit
set_option maxRecDepth 100000

/-- A chunk: count, type, body. -/
abbrev Chunk := Int × Int × List Int × Unit
def RChunk : Reader Chunk := RCons 1 (RInt .u8) (RCons 1 (RInt .u8) (RCons 1 (RSl 1 (RInt .u8)) RNil))
theorem keepsChunk : Keeps RChunk := Keeps.cons (Keeps.int _) (Keeps.cons (Keeps.int _) (Keeps.cons (Keeps.sl (Keeps.int _)) Keeps.nil))
theorem opensChunk : Opens Try.prog 30 RChunk :=
  Opens.struct Try.underlying30 (by kernel_rfl) (OpensF.cons rfl (by kernel_rfl) (Opens.int Try.underlying5) (OpensF.cons rfl (by kernel_rfl) (Opens.int Try.underlying5) (OpensF.cons rfl (by kernel_rfl) (Opens.sl Try.underlying28 (by kernel_rfl) (by decide) (Opens.int Try.underlying5)) OpensF.nil)))
def chunk0 : Chunk := (0, 0, [], ())
/-- What may be a chunk's numbers. -/
structure ChunkOK (c : Chunk) : Prop where
  n : 0 ≤ c.1 ∧ c.1 ≤ 255
  t : 0 ≤ c.2.1 ∧ c.2.1 ≤ 255
  byt : Byt c.2.2.1
theorem wf_u8 {n : Int} (h : 0 ≤ n ∧ n ≤ 255) : (Lit.int .u8 n).wf = true := by
  simp [Lit.wf, IntKind.min, IntKind.max, IntKind.signed, IntKind.bits]
  omega
theorem byt_wf {l : List Int} (h : Byt l) : ∀ n ∈ l, (Lit.int .u8 n).wf = true := by
  intro n hn
  obtain ⟨i, hi, rfl⟩ := List.mem_iff_getElem.1 hn
  have := h i
  rw [List.getD_eq_getElem?_getD, List.getElem?_eq_getElem hi, Option.getD_some] at this
  exact wf_u8 this
theorem chunk_of {w : World} {cs : List Value} {c : Chunk} (h : RChunk w cs c) (hl : cs.length = 3) : ∃ vb, cs = [.int .u8 c.1, .int .u8 c.2.1, vb] ∧ SlI .u8 w vb c.2.2.1 ∧ ChunkOK c := by
  match cs, hl with
  | [k0, k1, k2], _ =>
    obtain ⟨⟨r0, b0⟩, ⟨r1, b1⟩, ⟨vb, r2, s2⟩, _⟩ := h
    simp at r0 r1 r2
    subst r0 r1 r2
    exact ⟨k2, rfl, s2.ints.1, ⟨bounds_u8 b0, bounds_u8 b1, Byt.of_wf s2.ints.2⟩⟩
theorem chunk_mk {w : World} {vb : Value} {c : Chunk} (s : SlI .u8 w vb c.2.2.1) (h : ChunkOK c) : RChunk w [.int .u8 c.1, .int .u8 c.2.1, vb] c :=
  ⟨⟨rfl, wf_u8 h.n⟩, ⟨rfl, wf_u8 h.t⟩, ⟨vb, rfl, SlP.of_ints s (byt_wf h.byt)⟩, rfl⟩
/-- What a chunk in a row reads as. -/
structure ChunkAt (w : World) (b off i : Nat) (c : Chunk) (vb : Value) : Prop where
  c0 : w.cell? ⟨b, off + i * 3, none⟩ = some (.int .u8 c.1)
  c1 : w.cell? ⟨b, off + i * 3 + 1, none⟩ = some (.int .u8 c.2.1)
  c2 : w.cell? ⟨b, off + i * 3 + 2, none⟩ = some vb
  sl : SlI .u8 w vb c.2.2.1
  ok : ChunkOK c
theorem ChunkAt.more {w w' : World} {b off i : Nat} {t : Chunk} {vb : Value} (h : ChunkAt w b off i t vb) (m : More w w') (hb : b < w.heap.size) : ChunkAt w' b off i t vb := by
  obtain ⟨h0, h1, h2, h4, h5⟩ := h
  exact ⟨by rw [m.cells b _ hb]; exact h0, by rw [m.cells b _ hb]; exact h1, by rw [m.cells b _ hb]; exact h2, h4.keep m, h5⟩
theorem chunks {w : World} {v : Value} {l : List Chunk} (h : SlP 3 RChunk w v l) : ∃ oa cap, v = .slice oa l.length cap ∧ (l.length : Int) ≤ 9223372036854775807 ∧ ∀ i, i < l.length → ∃ b off vb, oa = some ⟨b, off, none⟩ ∧ b < w.heap.size ∧ ChunkAt w b off i (l.getD i chunk0) vb := by
  obtain ⟨oa, cap, h1, h2, h3, _⟩ := h
  refine ⟨oa, cap, h1, h2, fun i hi => ?_⟩
  obtain ⟨b, off, cs, e, hb, hl, hc, hr⟩ := h3 i hi
  have e0 := hc 0 (by omega)
  have e1 := hc 1 (by omega)
  have e2 := hc 2 (by omega)
  have eg : l.getD i chunk0 = l[i] := by simp [hi]
  rw [eg]
  obtain ⟨vb, rfl, hs, hk⟩ := chunk_of hr hl
  simp at e0 e1 e2
  exact ⟨b, off, vb, e, hb, e0, e1, e2, hs, hk⟩
/-- May a chunk be? -/
def rightB (c : Chunk) : Bool := decide (c.1 ≤ 31 ∧ c.2.2.1.length % 4 = 0 ∧ c.2.2.1.length ≤ 196)
theorem Right07_any {w : World} {vb : Value} (c : Chunk) (hb : SlI .u8 w vb c.2.2.1) (hl : c.2.2.1.length ≤ 1000000) :
    Calls Try.prog 49 #[.agg #[.int .u8 c.1, .int .u8 c.2.1, vb]] w fun e w' => e = .returned (.bool (rightB c)) ∧ More w w' := by
  obtain ⟨k, n, b, ⟨⟩⟩ := c
  simp only at *
  obtain ⟨ob, capb, rfl, _⟩ := hb
  have m0 := More.alloc w (.cells #[.int .u8 k, .int .u8 n, .slice ob b.length capb] 30)
  by_cases h1 : k ≤ 31
  · by_cases h2 : b.length % 4 = 0
    · by_cases h3 : b.length ≤ 196
      · have hr : rightB (k, n, b, ()) = true := by unfold rightB; simp [h1, h2, h3]
        have HR := Lib.hid hr
        clear hr
        have h2i : ((b.length : Int)).tmod 4 = 0 := by rw [Int.tmod_eq_emod_of_nonneg (by omega)]; omega
        go_enter Try.func49, Try.ntmps49
        go_wp2
        all_goals (go_ret; exact ⟨by rw [HR.out]; first | rfl | exact ret_bool (decide_eq_true (by omega)) | exact ret_bool (decide_eq_false (by omega)), m0⟩)
      · have hr : rightB (k, n, b, ()) = false := by unfold rightB; simp [h3]
        have HR := Lib.hid hr
        clear hr
        have h2i : ((b.length : Int)).tmod 4 = 0 := by rw [Int.tmod_eq_emod_of_nonneg (by omega)]; omega
        go_enter Try.func49, Try.ntmps49
        go_wp2
        all_goals (go_ret; exact ⟨by rw [HR.out]; first | rfl | exact ret_bool (decide_eq_true (by omega)) | exact ret_bool (decide_eq_false (by omega)), m0⟩)
    · have hr : rightB (k, n, b, ()) = false := by unfold rightB; simp [h2]
      have HR := Lib.hid hr
      clear hr
      have h2i : ¬ ((b.length : Int)).tmod 4 = 0 := by rw [Int.tmod_eq_emod_of_nonneg (by omega)]; omega
      go_enter Try.func49, Try.ntmps49
      go_wp2
      all_goals (go_ret; exact ⟨by rw [HR.out]; first | rfl | exact ret_bool (decide_eq_true (by omega)) | exact ret_bool (decide_eq_false (by omega)), m0⟩)
  · have hr : rightB (k, n, b, ()) = false := by unfold rightB; simp [h1]
    have HR := Lib.hid hr
    clear hr
    go_enter Try.func49, Try.ntmps49
    go_wp2
    all_goals (go_ret; exact ⟨by rw [HR.out]; first | rfl | exact ret_bool (decide_eq_true (by omega)) | exact ret_bool (decide_eq_false (by omega)), m0⟩)
/-- Are chunks too many, or too long? -/
def lrgC (l : List Chunk) : Bool := decide (60 < l.length) || l.any fun t => decide (400 < t.2.2.1.length)
theorem lrgC_no {l : List Chunk} (h : lrgC l = false) : l.length ≤ 60 ∧ ∀ i, i < l.length → (l.getD i chunk0).2.2.1.length ≤ 400 := by
  unfold lrgC at h
  rw [Bool.or_eq_false_iff] at h
  refine ⟨by simpa using h.1, fun i hi => ?_⟩
  have := List.any_eq_false.1 h.2 (l.getD i chunk0) (by simp [hi])
  simpa using this
theorem lrgC_no_of {l : List Chunk} (h : l.length ≤ 60) (k : ∀ i, i < l.length → (l.getD i chunk0).2.2.1.length ≤ 400) : lrgC l = false := by
  unfold lrgC
  rw [Bool.or_eq_false_iff]
  refine ⟨by simpa using h, List.any_eq_false.2 fun t ht => ?_⟩
  obtain ⟨i, hi, rfl⟩ := List.mem_iff_getElem.1 ht
  have := k i hi
  simp [hi] at this
  simpa using this
theorem lrgC_yes {l : List Chunk} {i : Nat} (hi : i < l.length) (h : 400 < (l.getD i chunk0).2.2.1.length) : lrgC l = true := by
  unfold lrgC
  rw [Bool.or_eq_true]
  exact Or.inr (List.any_eq_true.2 ⟨l.getD i chunk0, by simp [hi], by simpa using h⟩)
theorem new_cells {w : World} {cs : Array Value} {t B : Nat} (hB : B = w.heap.size) : ∀ j u, cs.toList[j]? = some u → (w.alloc (.cells cs t)).cell? ⟨B, j, none⟩ = some u := by
  intro j u h
  subst hB
  exact blk_cell (blk_new w _) j (by simpa using h)
theorem getD_snoc {α : Type} (l : List α) (j : Nat) (d : α) (h : j < l.length) : l.take (j + 1) = l.take j ++ [l.getD j d] := by
  rw [List.take_add_one, List.getElem?_eq_getElem h]
  simp [h]
theorem take_sameC (la lb : List Chunk) (j : Nat) (h1 : j < la.length) (h2 : j < lb.length) (h : la.take j = lb.take j) (hd : la.getD j chunk0 = lb.getD j chunk0) : la.take (j + 1) = lb.take (j + 1) := by
  rw [getD_snoc la j chunk0 h1, getD_snoc lb j chunk0 h2, h, hd]
theorem Same07_any (la lb : List Chunk) (va vb : Value) (w : World) (ha : SlP 3 RChunk w va la) (hb : SlP 3 RChunk w vb lb) :
    Calls Try.prog 70 #[va, vb] w fun e w' => e = .returned (.bool (decide (la = lb))) ∧ More w w' := by
  obtain ⟨oa, capa, rfl, hla, hea⟩ := chunks ha
  obtain ⟨ob, capb, rfl, hlb, heb⟩ := chunks hb
  clear ha hb
  by_cases hlen : la.length = lb.length
  · have hleni : (la.length : Int) = (lb.length : Int) := by omega
    have hlenb : ((la.length : Int) != (lb.length : Int)) = false := by simp [hlen]
    have hlen1 : la.length ≤ lb.length := by omega
    have hlen2 : lb.length ≤ la.length := by omega
    clear hlen hleni
    go_enter Try.func70, Try.ntmps70
    go_wp2
    go_loopw [5] (fun i wr => ∃ j : Nat, j ≤ la.length ∧ i = .int .i64 j ∧ la.take j = lb.take j ∧ More w wr) (fun i _ => la.length - (intOf i).toNat)
    case atStart => exact ⟨0, by omega, rfl, by simp, More.refl _⟩
    case round =>
      obtain ⟨j, hj, rfl, hpre, hmr⟩ := hrel
      have HP := Lib.hid hpre
      clear hpre
      by_cases hlt : j < la.length
      · have hlt2 : j < lb.length := by omega
        obtain ⟨b1, off1, vb1, rfl, hb1, ht1⟩ := hea j hlt
        obtain ⟨b2, off2, vb2, rfl, hb2, ht2⟩ := heb j hlt2
        have hjl : (j : Int) < (la.length : Int) := by omega
        have hjl2 : (j : Int) < (lb.length : Int) := by omega
        have hj0 : (0 : Int) ≤ (j : Int) := by omega
        have hm1 := ht1.more hmr hb1
        have hm2 := ht2.more hmr hb2
        have hb1r : b1 < wr.heap.size := Nat.lt_of_lt_of_le hb1 hmr.size
        have hb2r : b2 < wr.heap.size := Nat.lt_of_lt_of_le hb2 hmr.size
        have HT := fun h => take_sameC la lb j hlt hlt2 HP.out h
        have HD : Hid (la = lb → la.getD j chunk0 = lb.getD j chunk0) := Lib.hid (fun e => by rw [e])
        have HT := Lib.hid HT
        clear hea heb ht1 ht2
        generalize la.getD j chunk0 = x at *
        generalize lb.getD j chunk0 = y at *
        obtain ⟨k1, n1, q1, ⟨⟩⟩ := x
        obtain ⟨k2, n2, q2, ⟨⟩⟩ := y
        have C10 : ∀ x : Later wr, x.w'.cell? ⟨b1, off1 + j * 3, none⟩ = some (.int .u8 k1) := fun x => x.cell hb1r hm1.c0
        have C11 : ∀ x : Later wr, x.w'.cell? ⟨b1, off1 + j * 3 + 1, none⟩ = some (.int .u8 n1) := fun x => x.cell hb1r hm1.c1
        have C12 : ∀ x : Later wr, x.w'.cell? ⟨b1, off1 + j * 3 + 2, none⟩ = some vb1 := fun x => x.cell hb1r hm1.c2
        have C20 : ∀ x : Later wr, x.w'.cell? ⟨b2, off2 + j * 3, none⟩ = some (.int .u8 k2) := fun x => x.cell hb2r hm2.c0
        have C21 : ∀ x : Later wr, x.w'.cell? ⟨b2, off2 + j * 3 + 1, none⟩ = some (.int .u8 n2) := fun x => x.cell hb2r hm2.c1
        have C22 : ∀ x : Later wr, x.w'.cell? ⟨b2, off2 + j * 3 + 2, none⟩ = some vb2 := fun x => x.cell hb2r hm2.c2
        have s1 : ∀ x : Later wr, SlI .u8 x.w' vb1 q1 := fun x => hm1.sl.keep x.h
        have s2 : ∀ x : Later wr, SlI .u8 x.w' vb2 q2 := fun x => hm2.sl.keep x.h
        clear hm1 hm2
        by_cases e1 : k1 = k2
        · have e1b : (k1 != k2) = false := by simp [e1]
          by_cases e2 : n1 = n2
          · have e2b : (n1 != n2) = false := by simp [e2]
            have E1 := Lib.hid e1
            have E2 := Lib.hid e2
            clear e1 e2
            have E3 : Hid (q1 = q2 ∨ ¬ q1 = q2) := Lib.hid (Classical.em _)
            go_wp2_with fail
            refine wp_region_later _ (More.refl _) (by kernel_rfl) (by kernel_rfl) ?_
            repeat (go_big_quiet_step ((go_at_call 34; exact calls_later_drew (Same_any q1 q2 _ _ _ (s1 _) (s2 _)))))
            refine wpQuiet_nil ?_
            intro _ hw'
            obtain ⟨x9, rfl⟩ := hw'
            cases hq : decide (q1 = q2) with
            | true =>
              go_wp2
              go_roundw
              case rel => exact ⟨j + 1, by omega, by go_num, HT.out (by rw [E1.out, E2.out, of_decide_eq_true hq]), hmr.trans x9.h⟩
              case measure => simp [intOf]; omega
            | false =>
              have hne : ¬ la = lb := fun e => by
                have := HD.out e
                injection this with _ this
                injection this with _ this
                injection this with this _
                exact of_decide_eq_false hq this
              have HN := Lib.hid hne
              clear hne
              go_wp2
              go_ret
              exact ⟨ret_bool (by simp [HN.out]), hmr.trans x9.h⟩
          · skip
            have e2b : (n1 != n2) = true := by simpa using e2
            have hne : ¬ la = lb := fun e => by
              have := HD.out e
              injection this with _ this
              injection this with this _
              exact e2 this
            have HN := Lib.hid hne
            clear hne
            go_wp2_with fail
            refine wp_region_later _ (More.refl _) (by kernel_rfl) (by kernel_rfl) ?_
            repeat (go_big_quiet_step (fail))
            refine wpQuiet_nil ?_
            intro _ hw'
            obtain ⟨x9, rfl⟩ := hw'
            go_wp2
            go_ret
            exact ⟨ret_bool (by simp [HN.out]), hmr.trans x9.h⟩
        · skip
          have e1b : (k1 != k2) = true := by simpa using e1
          have hne : ¬ la = lb := fun e => by
            have := HD.out e
            injection this with this _
            exact e1 this
          have HN := Lib.hid hne
          clear hne
          go_wp2_with fail
          refine wp_region_later _ (More.refl _) (by kernel_rfl) (by kernel_rfl) ?_
          repeat (go_big_quiet_step (fail))
          refine wpQuiet_nil ?_
          intro _ hw'
          obtain ⟨x9, rfl⟩ := hw'
          go_wp2
          go_ret
          exact ⟨ret_bool (by simp [HN.out]), hmr.trans x9.h⟩
      · obtain rfl : j = la.length := by omega
        have he : la = lb := by
          have := HP.out
          rwa [List.take_length, List.take_of_length_le hlen2] at this
        have HE := Lib.hid (decide_eq_true he)
        clear he hea heb
        go_wp2
        go_ret
        exact ⟨by rw [HE.out]; rfl, hmr⟩
  · have hne : ¬ la = lb := fun e => hlen (by rw [e])
    have hlenb : ((la.length : Int) != (lb.length : Int)) = true := by simp; omega
    have HN := Lib.hid (decide_eq_false hne)
    clear hne hlen hea heb
    go_enter Try.func70, Try.ntmps70
    go_wp2
    go_ret
    exact ⟨by rw [HN.out]; rfl, More.refl _⟩
end Go.Proofs.Ytlnikmcimmnbmaa
/- Readers: the state, plain; bytes of numbers. -/
namespace Go.Proofs.Ytlnikmcimmnbmaa
set_option linter.unusedSimpArgs false
set_option linter.unusedVariables false
open Go.RowKit
set_option maxRecDepth 100000

theorem bysA_len2 (n s : Int) (hs : 0 ≤ s ∧ s ≤ 8) : (bysA n s).length = s.toNat := by
  rw [bysA_pos n s hs, bys_length]
theorem num_bysA (x : Int) (k : Nat) (hx : 0 ≤ x) (h8 : k ≤ 8) (h : x < 2 ^ (8 * k)) : num (bysA x k) = x := by
  have e1 : bysA x k = bys x k := by rw [bysA_pos _ _ (by omega)]; simp
  rw [e1, num_eq_numE _ (Byt_bys _ _) (by rw [bys_length]; exact h8), numE_bys]
  exact Int.emod_eq_of_lt hx h
theorem tk_join {l : List Int} {n : Int} (h0 : 0 ≤ n) (h : n ≤ l.length) : l = tkB l n ++ tkL l n ∧ ((tkB l n).length : Int) = n := by
  unfold tkB tkL
  rw [if_pos h]
  refine ⟨(List.take_append_drop _ _).symm, ?_⟩
  rw [List.length_take]; omega
theorem bysA_num {l : List Int} (h : Byt l) (k : Nat) (hl : (l.length : Int) = k) (h8 : k ≤ 8) : bysA (num l) k = l := by
  have hl2 : l.length = k := by omega
  rw [bysA_pos _ _ (by omega)]
  simp only [Int.toNat_natCast]
  rw [← hl2]
  exact bys_num l h (by omega)
/-- A reader's state: what is left, what went wrong. -/
abbrev RdS := List Int × Int
def wrS (s : RdS) (x : Int) : RdS := if x = 0 ∨ ¬ s.2 = 0 then s else ([], x)
def tkS (s : RdS) (n : Int) : RdS := (tkL s.1 n, tkE s.1 n s.2)
theorem RdWrong_any {w : World} {R : Nat} {s : RdS} {C : Nat → Prop} (h : ReaderAt w R s.1 s.2 C) (x : Int) :
    Calls Try.prog 90 #[.pointer (some ⟨R, 0, none⟩), .int .i64 x] w fun e' w' => e' = .returned (.tuple #[]) ∧ ReaderAt w' R (wrS s x).1 (wrS s x).2 C ∧ Away (fun b => b = R) w w' := by
  obtain ⟨l, e⟩ := s
  simp only at h
  by_cases hx : x = 0
  · refine (RdWrong_no h x (Or.inl hx)).mono ?_
    rintro e' w' ⟨rfl, rfl⟩
    have : wrS (l, e) x = (l, e) := by unfold wrS; rw [if_pos (Or.inl hx)]
    rw [this]; exact ⟨rfl, h, Away.refl _ _⟩
  · by_cases he : e = 0
    · subst he
      refine (RdWrong_yes h x hx).mono ?_
      rintro e' w' ⟨rfl, h2, a2⟩
      have : wrS (l, 0) x = ([], x) := by unfold wrS; rw [if_neg (by simp [hx])]
      rw [this]; exact ⟨rfl, h2, a2⟩
    · refine (RdWrong_no h x (Or.inr ⟨hx, he⟩)).mono ?_
      rintro e' w' ⟨rfl, rfl⟩
      have : wrS (l, e) x = (l, e) := by unfold wrS; rw [if_pos (Or.inr he)]
      rw [this]; exact ⟨rfl, h, Away.refl _ _⟩
abbrev U32 (n : Int) : Prop := 0 ≤ n ∧ n ≤ 4294967295
/-- So many bytes on. -/
def adv (s : RdS) (n : Nat) : RdS := if s.2 = 0 then (if n ≤ s.1.length then (s.1.drop n, 0) else ([], 3)) else ([], s.2)
def Shut (s : RdS) : Prop := ¬ s.2 = 0 → s.1 = []
theorem tkS_adv {s : RdS} (n : Nat) (h : Shut s) : tkS s n = adv s n := by
  obtain ⟨l, e⟩ := s
  unfold tkS adv tkL tkE
  simp only [Int.toNat_natCast]
  by_cases he : e = 0
  · subst he
    rw [if_pos rfl]
    by_cases hn : n ≤ l.length
    · rw [if_pos hn, if_neg (by omega)]
    · rw [if_neg hn, if_pos (by omega), List.drop_eq_nil_of_le (by omega)]
  · have h0 : l = [] := h he
    subst h0
    rw [if_neg he, if_neg (fun x => he x.2)]
    simp
theorem adv_shut (s : RdS) (n : Nat) : Shut (adv s n) := by
  unfold Shut adv
  split
  · split
    · intro h; exact absurd rfl h
    · intro _; rfl
  · intro _; rfl
theorem adv_adv (s : RdS) (a b : Nat) : adv (adv s a) b = adv s (a + b) := by
  obtain ⟨l, e⟩ := s
  unfold adv
  simp only
  by_cases he : e = 0
  · subst he
    simp only [if_true]
    by_cases ha : a ≤ l.length
    · rw [if_pos ha]
      simp only [if_true, List.length_drop, List.drop_drop]
      by_cases hb : a + b ≤ l.length
      · rw [if_pos (by omega), if_pos hb]
      · rw [if_neg (by omega), if_neg hb]
    · rw [if_neg ha]
      simp
      omega
  · rw [if_neg he, if_neg he]
    simp [he]
theorem tkS_adv2 {s : RdS} (a b : Nat) : tkS (adv s a) b = adv s (a + b) := by rw [tkS_adv b (adv_shut s a), adv_adv]
theorem adv_zero {s : RdS} (h : Shut s) : adv s 0 = s := by
  obtain ⟨l, e⟩ := s
  unfold adv
  by_cases he : e = 0
  · subst he; simp
  · have h0 : l = [] := h he
    subst h0; simp [he]
theorem bysA_mod3 (x : Int) : bysA (x % 16777216) 3 = bysA x 3 := by
  have h : ∀ j, j < 3 → by8 (x % 16777216) j = by8 x j := by
    intro j hj
    unfold by8
    match j, hj with
    | 0, _ => simp
    | 1, _ => simp; omega
    | 2, _ => simp; omega
  show [by8 (x % 16777216) 2, by8 (x % 16777216) 1, by8 (x % 16777216) 0] = [by8 x 2, by8 x 1, by8 x 0]
  rw [h 0 (by decide), h 1 (by decide), h 2 (by decide)]
theorem tkS_bysA (x : Int) (k : Nat) (h8 : k ≤ 8) (r : List Int) : tkS (bysA x k ++ r, 0) k = (r, 0) ∧ tkB (bysA x k ++ r) k = bysA x k := by
  have hl : ((bysA x k).length : Int) = k := by rw [bysA_len2 _ _ (by omega)]; simp
  have a := tkB_app (bysA x k) r
  have b := tkL_app (bysA x k) r
  have c := tkE_app (bysA x k) r 0
  rw [hl] at a b c
  unfold tkS
  simp only [a, b, c, and_self]
theorem num_exists (k : Nat) (h8 : k ≤ 8) {L : List Int} (hb : Byt L) (h : k ≤ L.length) : ∃ x r, L = bysA x k ++ r ∧ 0 ≤ x ∧ x < 2 ^ (8 * k) ∧ Byt r := by
  obtain ⟨j, q⟩ := tk_join (l := L) (n := (k : Int)) (by omega) (by omega)
  have hn := num_lt (tkB L k) k (tkB_byt hb k) (by omega) h8
  refine ⟨num (tkB L k), tkL L k, ?_, hn.1, hn.2, hb.drop _⟩
  rw [bysA_num (tkB_byt hb k) k q h8]
  exact j
theorem u32_exists {L : List Int} (hb : Byt L) (h : 4 ≤ L.length) : ∃ x r, L = bysA x 4 ++ r ∧ U32 x ∧ Byt r := by
  obtain ⟨x, r, h1, h2, h3, h4⟩ := num_exists 4 (by decide) hb h
  have h3 : x < 4294967296 := h3
  exact ⟨x, r, h1, ⟨h2, by omega⟩, h4⟩
end Go.Proofs.Ytlnikmcimmnbmaa
