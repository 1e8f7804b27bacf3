/- Merged from my texts ReportK. -/
import Derived.Test.YtlnikmcimmnbmaaMg20
import Derived.Deep.CutRange
import Derived.Deep.CutBlock
/- Reports: the document's Write. -/
namespace Go.Proofs.Ytlnikmcimmnbmaa
set_option linter.unusedSimpArgs false
set_option linter.unusedVariables false
open Go.RowKit
set_option maxRecDepth 100000

theorem owns_apart {S : Nat → Prop} {w w' : World} {base e size n : Nat} {v : Value} {xs : List Value} (h : w.ownsRow base e size v n xs) (m : Away S w w') (hs : ∀ b, v.ownBlock = some b → ¬ S b) : w'.ownsRow base e size v n xs := by
  obtain ⟨h1, h2⟩ := h
  refine ⟨h1, ?_⟩
  rcases h2 with h | ⟨g, cap, cur, e1, hb, hg, rest⟩
  · exact Or.inl h
  · exact Or.inr ⟨g, cap, cur, e1, hb, m.blk hg (hs g (by rw [e1]; rfl)), rest⟩
theorem st3_blk {w : World} {b : Nat} {t : TypeId} {a0 a1 a2 : Value} (h : w.heap[b]? = some (.cells #[a0, a1, a2] t (0, 0))) (v0 v1 v2 : Value) : (((w.setCell ⟨b, 0, none⟩ v0).setCell ⟨b, 1, none⟩ v1).setCell ⟨b, 2, none⟩ v2).heap[b]? = some (.cells #[v0, v1, v2] t (0, 0)) :=
  blk_eq (blk_set (blk_set (blk_set h 0 v0) 1 v1) 2 v2) rfl
theorem More.st3 {w w' : World} (h : More w w') (b : Nat) (hb : w.heap.size ≤ b) (v0 v1 v2 : Value) : More w (((w'.setCell ⟨b, 0, none⟩ v0).setCell ⟨b, 1, none⟩ v1).setCell ⟨b, 2, none⟩ v2) :=
  ((h.st (p := ⟨b, 0, none⟩) hb v0).st (p := ⟨b, 1, none⟩) hb v1).st (p := ⟨b, 2, none⟩) hb v2
/-- A chunk whose body grows, beside blocks that stay. -/
structure WtS (w0 w : World) (C : Nat) (K : List (Nat × Obj)) (n ty : Int) (v : Value) (l : List Int) : Prop where
  own : w.ownsRow w0.heap.size 5 1 v l.length (l.map (Value.int .u8))
  blk : w.heap[C]? = some (.cells #[.int .u8 n, .int .u8 ty, v] 35 (0, 0))
  apart : v.ownBlock ≠ some C
  keep : ∀ x ∈ K, w.heap[x.1]? = some x.2 ∧ v.ownBlock ≠ some x.1 ∧ x.1 ≠ C
  hC : w0.heap.size ≤ C
  more : More w0 w
section
variable {w0 w w' : World} {C : Nat} {K : List (Nat × Obj)} {n ty : Int} {v v' : Value} {l l' : List Int}
theorem WtS.on (h : WtS w0 w C K n ty v l) (m : More w w') : WtS w0 w' C K n ty v l :=
  ⟨owns_more h.own m, blk_more m h.blk, h.apart, fun x hx => ⟨blk_more m (h.keep x hx).1, (h.keep x hx).2⟩, h.hC, h.more.trans m⟩
theorem WtS.blk' (h : WtS w0 w C K n ty v l) (g : w.grownBy w' v.ownBlock) : w'.heap[C]? = some (.cells #[.int .u8 n, .int .u8 ty, v] 35 (0, 0)) := by
  rw [g.block C (blk_lt h.blk) (fun e => h.apart e.symm)]; exact h.blk
theorem WtS.put (h : WtS w0 w C K n ty v l) (ho : w'.ownsRow w0.heap.size 5 1 v' l'.length (l'.map (Value.int .u8))) (g : w.grownBy w' v.ownBlock) (hb : v'.ownBlock = v.ownBlock ∨ v'.ownBlock = some w.heap.size) :
    WtS w0 (w'.setCell ⟨C, 2, none⟩ v') C K n ty v' l' := by
  have hCl := blk_lt h.blk
  have ap : ∀ k, k < w.heap.size → v.ownBlock ≠ some k → v'.ownBlock ≠ some k := by
    intro k hk hv e
    rcases hb with hb | hb
    · exact hv (by rw [← hb]; exact e)
    · rw [hb] at e; injection e with e; omega
  have apC := ap C hCl h.apart
  refine ⟨?_, blk_eq (blk_set (h.blk' g) 2 v') rfl, apC, fun x hx => ?_, h.hC, ?_⟩
  · exact owns_apart ho ((Away.refl (fun b => b = C) w').set (p := ⟨C, 2, none⟩) rfl v') (by rintro b hb rfl; exact apC hb)
  · obtain ⟨k1, k2, k3⟩ := h.keep x hx
    refine ⟨?_, ap _ (blk_lt k1) k2, k3⟩
    exact blk_other (by rw [g.block _ (blk_lt k1) (fun e => k2 e.symm)]; exact k1) ⟨C, 2, none⟩ v' k3
  · exact More.st (h.more.grown g h.more.size (fun z hz => owns_ge h.own hz)) (p := ⟨C, 2, none⟩) h.hC v'
theorem WtS.typ (h : WtS w0 w C K n ty v l) (t : Int) : WtS w0 (w.setCell ⟨C, 1, none⟩ (.int .u8 t)) C K n t v l :=
  ⟨owns_apart h.own ((Away.refl (fun b => b = C) w).set (p := ⟨C, 1, none⟩) rfl _) (by rintro b hb rfl; exact h.apart hb), blk_eq (blk_set h.blk 1 _) rfl, h.apart,
    fun x hx => ⟨blk_other (h.keep x hx).1 ⟨C, 1, none⟩ _ (h.keep x hx).2.2, (h.keep x hx).2⟩, h.hC, h.more.st (p := ⟨C, 1, none⟩) h.hC _⟩
theorem WtS.add (h : WtS w0 w C K n ty v l) (o : Obj) : WtS w0 (w.alloc o) C ((w.heap.size, o) :: K) n ty v l := by
  have h2 := h.on (More.alloc w o)
  refine ⟨h2.own, h2.blk, h2.apart, fun x hx => ?_, h2.hC, h2.more⟩
  rcases List.mem_cons.1 hx with rfl | hx
  · exact ⟨blk_new w o, fun e => by have := owns_lt h.own e; omega, fun e => by have := blk_lt h.blk; omega⟩
  · exact h2.keep x hx
theorem WtS.drop {y : Nat × Obj} (h : WtS w0 w C (y :: K) n ty v l) : WtS w0 w C K n ty v l :=
  ⟨h.own, h.blk, h.apart, fun x hx => h.keep x (List.mem_cons_of_mem _ hx), h.hC, h.more⟩
theorem WtS.k0 {y : Nat × Obj} (h : WtS w0 w C (y :: K) n ty v l) : w.heap[y.1]? = some y.2 := (h.keep y List.mem_cons_self).1
theorem WtS.ne0 {y : Nat × Obj} (h : WtS w0 w C (y :: K) n ty v l) : v.ownBlock ≠ some y.1 := (h.keep y List.mem_cons_self).2.1
end
theorem lit1 {x : World} {n : Nat} (src : Int) (hn : n = x.heap.size) : SlI .u32 (x.alloc (.cells #[.int .u32 src] 22)) (.slice (some ⟨n, 0, none⟩) 1 1) [src] :=
  SlI.lit .u32 x [src] 22 _ 1 n rfl rfl hn (by simp)
theorem wts_new {w w2 x : World} {C : Nat} {or oz : Obj} {n ty : Int} {v : Value} {l : List Int} (M2 : More w w2) (A2 : w2.heap[w.heap.size]? = some or) (B2 : w2.heap[w.heap.size + 1]? = some oz) (hm : More w2 x) (hC : w2.heap.size ≤ C)
    (hb : x.heap[C]? = some (.cells #[.int .u8 0, .int .u8 0, .slice none 0 0] 35 (0, 0))) {B : Nat} (own : x.ownsRow B 5 1 v l.length (l.map (Value.int .u8))) (hv : ∀ b, v.ownBlock = some b → w2.heap.size ≤ b ∧ b ≠ C) (hB : w.heap.size ≤ B) :
    WtS w (((x.setCell ⟨C, 0, none⟩ (.int .u8 n)).setCell ⟨C, 1, none⟩ (.int .u8 ty)).setCell ⟨C, 2, none⟩ v) C [(w.heap.size, or), (w.heap.size + 1, oz)] n ty v l := by
  have hs := M2.size
  have l1 := blk_lt A2
  have l2 := blk_lt B2
  have a3 : Away (fun b => b = C) x (((x.setCell ⟨C, 0, none⟩ (.int .u8 n)).setCell ⟨C, 1, none⟩ (.int .u8 ty)).setCell ⟨C, 2, none⟩ v) :=
    (((Away.refl (fun b => b = C) x).set (p := ⟨C, 0, none⟩) rfl _).set (p := ⟨C, 1, none⟩) rfl _).set (p := ⟨C, 2, none⟩) rfl _
  refine ⟨owns_down (owns_apart own a3 (fun b e => (hv b e).2)) hB, st3_blk hb _ _ _, fun e => (hv C e).2 rfl, fun y hy => ?_, by omega, More.st3 (M2.trans hm) C (by omega) _ _ _⟩
  rcases List.mem_cons.1 hy with rfl | hy
  · exact ⟨a3.blk (blk_more hm A2) (by simp only; omega), fun e => by have := (hv _ e).1; simp only at this; omega, by simp only; omega⟩
  · rw [List.mem_singleton] at hy
    subst hy
    exact ⟨a3.blk (blk_more hm B2) (by simp only; omega), fun e => by have := (hv _ e).1; simp only at this; omega, by simp only; omega⟩
theorem wts_fresh {w w2 x : World} {or oz : Obj} {n ty : Int} {v : Value} {l : List Int} (M2 : More w w2) (A2 : w2.heap[w.heap.size]? = some or) (B2 : w2.heap[w.heap.size + 1]? = some oz) (hm : More w2 x)
    {B : Nat} (own : x.ownsRow B 5 1 v l.length (l.map (Value.int .u8))) (hv : ∀ b, v.ownBlock = some b → w2.heap.size ≤ b ∧ b < x.heap.size) (hB : w.heap.size ≤ B) :
    WtS w (x.alloc (.cells #[.int .u8 n, .int .u8 ty, v] 35)) x.heap.size [(w.heap.size, or), (w.heap.size + 1, oz)] n ty v l := by
  have hs := M2.size
  have hs2 := hm.size
  have l1 := blk_lt A2
  have l2 := blk_lt B2
  refine ⟨owns_down (owns_more own (More.alloc _ _)) hB, blk_new _ _, fun e => by have := (hv _ e).2; omega, fun y hy => ?_, by omega, (M2.trans hm).al _⟩
  rcases List.mem_cons.1 hy with rfl | hy
  · exact ⟨blk_alloc (blk_more hm A2) _, fun e => by have := (hv _ e).1; simp only at this; omega, by simp only; omega⟩
  · rw [List.mem_singleton] at hy
    subst hy
    exact ⟨blk_alloc (blk_more hm B2) _, fun e => by have := (hv _ e).1; simp only at this; omega, by simp only; omega⟩
theorem repU {x : Int} (h : U32 x) : ∀ j, U32 (([x] : List Int).getD j 0) := fun j => by
  match j with
  | 0 => exact h
  | j + 1 => exact ⟨by simp, by simp⟩
theorem repU4 {a b c d : Int} (ha : U32 a) (hb : U32 b) (hc : U32 c) (hd : U32 d) : ∀ j, U32 (([a, b, c, d] : List Int).getD j 0) := fun j => by
  match j with
  | 0 => exact ha
  | 1 => exact hb
  | 2 => exact hc
  | 3 => exact hd
  | j + 4 => exact ⟨by simp, by simp⟩
theorem repU5 {a b c d e : Int} (ha : U32 a) (hb : U32 b) (hc : U32 c) (hd : U32 d) (he : U32 e) : ∀ j, U32 (([a, b, c, d, e] : List Int).getD j 0) := fun j => by
  match j with
  | 0 => exact ha
  | 1 => exact hb
  | 2 => exact hc
  | 3 => exact hd
  | 4 => exact he
  | j + 5 => exact ⟨by simp, by simp⟩
theorem bysA_miss (m : Int) : bysA (m + 16777216) 3 = bysA (m % 4294967296) 3 := by
  rw [← bysA_mod3 (m + 16777216), ← bysA_mod3 (m % 4294967296)]
  congr 1
  omega
theorem bysA_one (x : Int) (h : 0 ≤ x ∧ x ≤ 255) : bysA x 1 = [x] := by
  have e := num_bysA x 1 h.1 (by decide) (by omega)
  have hl := bysA_len2 x 1 (by decide)
  match hb : bysA x 1, hl with
  | [y], _ =>
    have h1 : bysA x 1 = [by8 x 0] := by rw [bysA_pos _ _ (by decide)]; rfl
    rw [hb] at h1
    injection h1 with h1 _
    rw [h1]
    unfold by8
    simp
    omega
theorem blkB_nums (b : Blk) (h : 0 ≤ b.part ∧ b.part ≤ 255) : numsB [b.src] ++ [b.part] ++ bysA (b.miss + 16777216) 3 ++ numsB [b.high, b.jit, b.last, b.dly] = blkB b := by
  unfold blkB numsB
  rw [bysA_miss, bysA_one _ h]
  simp
set_option maxHeartbeats 4000000 in
theorem RWrite08_no {w : World} (s : Bool) (src : Int) (i : Inf) (bl : List Blk) (oa : Option Addr) (cap : Nat) (sl : SlP 7 RBlk w (.slice oa bl.length cap) bl) (hr : rightR ⟨s, src, i, bl⟩ = false) :
    Calls Try.prog 17 #[.agg #[.bool s, .int .u32 src, .int .u32 i.sec, .int .u32 i.frac, .int .u32 i.stamp, .int .u32 i.pkts, .int .u32 i.octs, .slice oa bl.length cap]] w fun e w' => e = .returned (.tuple #[.agg #[.int .u8 0, .int .u8 0, .slice none 0 0], .int .i64 1]) ∧ More w w' := by
  have HRR := Lib.hid hr
  have HRT := Lib.hid (RRight08_any (w := (w.alloc (.cells #[.bool s, .int .u32 src, .int .u32 i.sec, .int .u32 i.frac, .int .u32 i.stamp, .int .u32 i.pkts, .int .u32 i.octs, .slice oa bl.length cap] 41)).alloc (.cells #[.int .u8 0, .int .u8 0, .slice none 0 0] 35)) ⟨s, src, i, bl⟩ (sl.keep keepsBlk ((More.alloc _ _).al _)))
  have B0 := Lib.hid (blk_new2 (w := w.alloc (.cells #[.bool s, .int .u32 src, .int .u32 i.sec, .int .u32 i.frac, .int .u32 i.stamp, .int .u32 i.pkts, .int .u32 i.octs, .slice oa bl.length cap] 41)) (n := w.heap.size + 1) (o := (.cells #[.int .u8 0, .int .u8 0, .slice none 0 0] 35)) (by simp))
  clear hr
  go_enter Try.func17, Try.ntmps17
  go_wp2_with (go_at_call 22; ((with_reducible refine (HRT.out).mono ?_); rintro e w2 ⟨rfl, m2⟩; rw [HRR.out]; have B2 := blk_more m2 B0.out; have M2 := Lib.hid (((More.alloc w (.cells #[.bool s, .int .u32 src, .int .u32 i.sec, .int .u32 i.frac, .int .u32 i.stamp, .int .u32 i.pkts, .int .u32 i.octs, .slice oa bl.length cap] 41)).al (.cells #[.int .u8 0, .int .u8 0, .slice none 0 0] 35)).trans m2); have f0 := blk_cell B2 0 (v := .int .u8 0) rfl; have f1 := blk_cell B2 1 (v := .int .u8 0) rfl; have f2 := blk_cell B2 2 (v := .slice none 0 0) rfl; have g0 := blk_free B2 0; have g1 := blk_free B2 1; have g2 := blk_free B2 2; have B3 := Lib.hid B2; clear B2 m2))
  have fin := st3_blk B3.out (.int .u8 0) (.int .u8 0) (.slice none 0 0)
  have mf := M2.out.st3 (w.heap.size + 1) (by omega) (.int .u8 0) (.int .u8 0) (.slice none 0 0)
  obtain ⟨WF, hWF⟩ : ∃ WF, (((w2.setCell ⟨w.heap.size + 1, 0, none⟩ (.int .u8 0)).setCell ⟨w.heap.size + 1, 1, none⟩ (.int .u8 0)).setCell ⟨w.heap.size + 1, 2, none⟩ (.slice none 0 0)) = WF := ⟨_, rfl⟩
  rw [hWF] at fin mf ⊢
  clear hWF
  have r0 := blk_cell fin 0 (v := .int .u8 0) rfl
  have r1 := blk_cell fin 1 (v := .int .u8 0) rfl
  have r2 := blk_cell fin 2 (v := .slice none 0 0) rfl
  (refine bodyPost_ret (v := .tuple #[.agg #[.int .u8 0, .int .u8 0, .slice none 0 0], .int .i64 1]) ?rr1 rfl ?_; (case rr1 => (simp [results, Try.results17, go_sem, r0, r1, r2])))
  exact ⟨rfl, mf⟩
theorem repU1len (x : Int) : numsB [x] = bysA x 4 := by unfold numsB; simp
end Go.Proofs.Ytlnikmcimmnbmaa
