/- Merged from my texts CompF, CompG. -/
import Derived.Test.YtlnikmcimmnbmaaMg33
/- Package compound: Read. -/
namespace Go.Proofs.Ytlnikmcimmnbmaa
set_option linter.unusedSimpArgs false
set_option linter.unusedVariables false
open Go.RowKit Go.Lib
set_option maxRecDepth 100000

theorem itm_off {D : Nat → Prop} {w : World} {vb va vl vo : Value} {x : Itm} (s : ItmS w vb va vl vo x) (ok : ItmOK x) (hb : ∀ g, vb.ownBlock = some g → ¬ D g) (ha : ∀ g, va.ownBlock = some g → ¬ D g) (hl : ∀ g, vl.ownBlock = some g → ¬ D g) (ho : x.oth.2.2.1 ≠ [] → ∀ g, vo.ownBlock = some g → ¬ D g) : RdOff RItm D w (itmC x vb va vl vo) x :=
  fun _ a => ⟨vb, va, vl, vo, rfl, ⟨slP_off s.bl hb a, ⟨slA_off s.ms.asks ha a, s.ms.lost.off hl a⟩, s.bo.off2 ho a⟩, ok⟩
theorem readR_fewC {c : Chunk} (hk : ChunkOK c) : (readR c).1.bl.length ≤ 100000 := by
  have hd : ∀ (r : Rep) (s : RdS), r.bl.length ≤ 100000 → (doneR r s).1.bl.length ≤ 100000 := by
    intro r s h
    unfold doneR
    split
    · exact h
    · exact Nat.zero_le _
  have h1 := hk.n
  unfold readR
  split
  · decide
  · split
    · exact hd _ _ (by simp only; rw [readBls_len]; omega)
    · split
      · exact hd _ _ (by simp only; rw [readBls_len]; omega)
      · decide
theorem itemC_ok {c : Chunk} (hk : ChunkOK c) : ItmOK (itemC c).1 := by
  unfold itemC
  split
  · exact ⟨readR_ok hk, msg0_ok, oth0_ok⟩
  split
  · exact ⟨rep0_ok, msg0_ok, hk⟩
  · exact ⟨rep0_ok, readM_ok hk, oth0_ok⟩
theorem itemC_small {c : Chunk} (hk : ChunkOK c) (hl : c.2.2.1.length ≤ 400) : ItmN (itemC c).1 := by
  have h := readM_small hl
  unfold itemC
  split
  · exact ⟨readR_fewC hk, Nat.zero_le _, Nat.zero_le _, Nat.zero_le _⟩
  split
  · exact ⟨Nat.zero_le _, Nat.zero_le _, Nat.zero_le _, by show c.2.2.1.length ≤ 1000000; omega⟩
  · exact ⟨Nat.zero_le _, h.1, h.2, Nat.zero_le _⟩
theorem szC_body {k : List Chunk} (h : szC k ≤ 200) (i : Nat) (hi : i < k.length) : (k.getD i chunk0).2.2.1.length ≤ 400 ∧ k.length ≤ 200 := by
  have h1 : (k.getD i chunk0).2.2.1.length + 4 ≤ szC k := by
    have := szC_succ k i hi
    have := szC_le k (i + 1)
    omega
  have h2 : ∀ j, j ≤ k.length → j ≤ szC (k.take j) := by
    intro j
    induction j with
    | zero => intro _; omega
    | succ j ih =>
      intro hj
      have := szC_succ k j (by omega)
      have := ih (by omega)
      omega
  have h3 := h2 k.length (Nat.le_refl _)
  rw [List.take_length] at h3
  omega
/-- The loop of Read. -/
structure ItJ (w wr : World) (u v : Value) (A : List Itm) (E : List Int) : Prop where
  row : RowP 17 RItm (fun b => v.ownBlock = some b) wr w.heap.size 122 u A
  errs : wr.ownsRow w.heap.size 32 1 v E.length (E.map (Value.int .i64))
  more : More w wr
theorem ItJ.on {w wr w' : World} {u v : Value} {A : List Itm} {E : List Int} (h : ItJ w wr u v A E) (m : More wr w') : ItJ w w' u v A E := ⟨h.row.on m, owns_more h.errs m, h.more.trans m⟩
theorem ItJ.put {w wr w' : World} {u v u' : Value} {A A' : List Itm} {E : List Int} (h : ItJ w wr u v A E) (ho : RowP 17 RItm (fun b => v.ownBlock = some b) w' w.heap.size 122 u' A') (g : wr.grownBy w' u.ownBlock) : ItJ w w' u' v A' E :=
  ⟨ho, owns_grown h.errs g (fun b hb e => h.row.apart b e hb), Below.grown h.more g h.more.size (fun k hk => h.row.ge hk)⟩
theorem ItJ.err {w wr w' : World} {u v v' : Value} {A : List Itm} {E E' : List Int} (h : ItJ w wr u v A E) (ho : w'.ownsRow w.heap.size 32 1 v' E'.length (E'.map (Value.int .i64))) (g : wr.grownBy w' v.ownBlock) (hv : v'.ownBlock = v.ownBlock ∨ v'.ownBlock = some wr.heap.size) : ItJ w w' u v' A E' :=
  ⟨h.row.beside g hv, ho, Below.grown h.more g h.more.size (fun k hk => owns_ge h.errs hk)⟩
theorem new_apart {w wr w0 : World} {u v x : Value} {A : List Itm} {E : List Int} (h : ItJ w wr u v A E) (hs : wr.heap.size ≤ w0.heap.size) (f : NewB w0 x) : ∀ g, x.ownBlock = some g → ¬ (v.ownBlock = some g ∨ u.ownBlock = some g) := by
  intro g hg hx
  have h1 := f g hg
  rcases hx with hx | hx
  · have := owns_lt h.errs hx; omega
  · have := h.row.lt hx; omega
theorem from_apart {w wr w0 : World} {u v : Value} {o1 oe : Option Addr} {p1 ce : Nat} {A : List Itm} {E : List Int} {c lo : List Int} (h : ItJ w wr u v A E) (f : FromB w0 (.slice o1 c.length p1) (.slice oe lo.length ce)) (so : SlI .u8 w (.slice oe lo.length ce) lo) (hs : wr.heap.size ≤ w0.heap.size) :
    c ≠ [] → ∀ g, (Value.slice o1 c.length p1).ownBlock = some g → ¬ (v.ownBlock = some g ∨ u.ownBlock = some g) := by
  intro hne g hg hx
  rcases f with f | f
  · exact new_apart h hs f g hg hx
  · have f2 := f
    injection f2 with _ f2 _
    have hlo : lo ≠ [] := fun e => hne (List.eq_nil_of_length_eq_zero (by rw [f2, e]; rfl))
    rw [f] at hg
    have h1 := so.old hlo hg
    rcases hx with hx | hx
    · have := owns_ge h.errs hx; omega
    · have := h.row.ge hx; omega
theorem ReadI_err (b : List Int) (v : Value) (w : World) (sl : SlI .u8 w v b) (hb : Byt b) (hl : b.length ≤ 1000000) (h0 : ¬ (splitC b).2 = 0) :
    Calls Try.prog 62 #[v] w fun e w' => ∃ vx, e = .returned (.tuple #[vx, .int .i64 (readI b).2]) ∧ SlP 17 RItm w' vx (readI b).1 ∧ More w w' := by
  have HS := Lib.hid (Split_any v b w sl hb hl)
  have HR : Hid (readI b = ([], (splitC b).2)) := Lib.hid (by unfold readI; rw [if_neg h0])
  have b0 : ((splitC b).2 != 0) = true := by simp [h0]
  clear sl h0
  rw [HR.out]
  go_enter Try.func62, Try.ntmps62
  go_wp2_with (go_at_call 123; ((with_reducible refine (HS.out).mono ?_); rintro e w1 ⟨vk, rfl, s1, m1⟩; have M1 := Lib.hid m1; clear s1 m1))
  go_ret2
  exact ⟨_, rfl, SlP.nil _ _ _, M1.out⟩
set_option maxHeartbeats 8000000 in
theorem ReadI_main (b : List Int) (v : Value) (w : World) (sl : SlI .u8 w v b) (hb : Byt b) (hl : b.length ≤ 1000000) (h0 : (splitC b).2 = 0) :
    Calls Try.prog 62 #[v] w fun e w' => ∃ vx, e = .returned (.tuple #[vx, .int .i64 (readI b).2]) ∧ SlP 17 RItm w' vx (readI b).1 ∧ More w w' := by
  obtain ⟨i0, hi, hz0, hz1, hz2⟩ := info_parts (P := Try.prog) (e := 122) (z := .agg #[.int .i64 0, .bool false, .int .u32 0, .int .u32 0, .int .u32 0, .int .u32 0, .int .u32 0, .int .u32 0, .slice none 0 0, .int .i64 0, .int .u32 0, .int .u32 0, .slice none 0 0, .slice none 0 0, .int .u8 0, .int .u8 0, .slice none 0 0]) (size := 17) (bytes := 160) (by kernel_rfl)
  obtain ⟨j0, ji, jz0, jz1, jz2⟩ := info_parts (P := Try.prog) (e := 32) (z := .int .i64 0) (size := 1) (bytes := 8) (by kernel_rfl)
  have HS := Lib.hid (Split_any v b w sl hb hl)
  have HSZ : Hid (szC (splitC b).1 ≤ 200) := Lib.hid (splitC_back hb (k := (splitC b).1) (by rw [← h0])).2.2.2
  have HR : Hid (readI b = if firstE ((splitC b).1.map fun c => (itemC c).2) = 0 then ((splitC b).1.map fun c => (itemC c).1, 0) else ([], firstE ((splitC b).1.map fun c => (itemC c).2))) := Lib.hid (by unfold readI; rw [if_pos h0])
  have H0 := Lib.hid h0
  clear sl h0
  generalize (splitC b).1 = l at *
  go_enter Try.func62, Try.ntmps62
  go_wp2_with (go_at_call 123; ((with_reducible refine (HS.out).mono ?_); rintro e w1 ⟨vk, rfl, s1, m1⟩; rw [H0.out]; have S1 := Lib.hid s1; have M1 := Lib.hid m1; obtain ⟨oa, cap, rfl, hl63, hel⟩ := chunks s1; have HEL := Lib.hid hel; clear s1 m1 hel))
  have J0 : Hid (ItJ w1 w1 (.slice none 0 0) (.slice none 0 0) [] []) := Lib.hid ⟨RowP.nil _ _ _ _ _ _, World.ownsRow_nil _ _ _ _, More.refl _⟩
  clear HS
  go_loopw [6, 7, 23] (fun u v ix wr => ∃ (j : Nat), j ≤ l.length ∧ ix = .int .i64 j ∧ (∃ ou nu cu ov nv cv, u = .slice ou nu cu ∧ v = .slice ov nv cv ∧ ItJ w1 wr (.slice ou nu cu) (.slice ov nv cv) ((l.take j).map fun c => (itemC c).1) ((l.take j).map fun c => (itemC c).2))) (fun _ _ ix _ => l.length - (intOf ix).toNat)
  case atStart => exact ⟨0, by omega, rfl, _, _, _, _, _, _, rfl, rfl, J0.out⟩
  case round =>
    obtain ⟨j, hj, rfl, ou, nu, cu, ov, nv, cv, rfl, rfl, hJ⟩ := hrel
    have HJ := Lib.hid hJ
    clear hJ
    by_cases hlt : j < l.length
    · obtain ⟨b1, off, vb, rfl, hb1, ht⟩ := HEL.out j hlt
      obtain ⟨c0, c1, c2, hsl, hck⟩ := ht.more HJ.out.more hb1
      have HS0 := Lib.hid ht.sl
      have HCK := Lib.hid hck
      have HSW := Lib.hid hsl
      obtain ⟨hbl, hll⟩ := szC_body HSZ.out j hlt
      have HBL := Lib.hid hbl
      have hjl : (j : Int) < (l.length : Int) := by omega
      have hbw : b1 < wr.heap.size := Nat.lt_of_lt_of_le hb1 HJ.out.more.size
      have HS := Lib.hid (getD_snoc l j chunk0 hlt)
      have HLJ : Hid ((l.take j).length = j ∧ j ≤ 200) := Lib.hid ⟨by simp; omega, by omega⟩
      clear ht hck hbl
      generalize l.take j = acc at *
      generalize l.getD j chunk0 = c at *
      obtain ⟨oe, ce, rfl, _⟩ := hsl
      go_wp2_with (first | (go_at_call 124; ((with_reducible refine (ItemOf_any c oe ce _ (HSW.out.keep (More.alloc _ _)) HCK.out HBL.out).mono ?_); rintro e w2 ⟨⟨vb2, va2, vl2, vo2, rfl, s2, n2, n3, n4, f2⟩, m2⟩; have S2 := Lib.hid s2; obtain ⟨ob, cb, rfl, _⟩ := id s2.bl; obtain ⟨oc, cc, rfl, _⟩ := id s2.ms.asks; obtain ⟨od, cd, rfl, _⟩ := id s2.ms.lost; obtain ⟨of, cf, rfl, _⟩ := id s2.bo; have hsz := (More.alloc wr (.cells #[.int .u8 c.1, .int .u8 c.2.1, .slice oe c.2.2.1.length ce] 30)).size; have A1 := Lib.hid (new_apart HJ.out hsz n2); have A2 := Lib.hid (new_apart HJ.out hsz n3); have A3 := Lib.hid (new_apart HJ.out hsz n4); have A4 := Lib.hid (from_apart HJ.out f2 HS0.out hsz); have M2 := Lib.hid ((More.alloc wr (.cells #[.int .u8 c.1, .int .u8 c.2.1, .slice oe c.2.2.1.length ce] 30)).trans m2); clear m2 n2 n3 n4 f2 s2 hsz; have J2 := Lib.hid ((HJ.out.on M2.out).on ((More.alloc w2 (.cells #[.int .i64 (itemC c).1.kind, .bool (itemC c).1.rep.snd, .int .u32 (itemC c).1.rep.src, .int .u32 (itemC c).1.rep.inf.sec, .int .u32 (itemC c).1.rep.inf.frac, .int .u32 (itemC c).1.rep.inf.stamp, .int .u32 (itemC c).1.rep.inf.pkts, .int .u32 (itemC c).1.rep.inf.octs, .slice ob (itemC c).1.rep.bl.length cb, .int .i64 (itemC c).1.msg.kind, .int .u32 (itemC c).1.msg.snd, .int .u32 (itemC c).1.msg.med, .slice oc (itemC c).1.msg.asks.length cc, .slice od (itemC c).1.msg.lost.length cd, .int .u8 (itemC c).1.oth.1, .int .u8 (itemC c).1.oth.2.1, .slice of (itemC c).1.oth.2.2.1.length cf] 122)).al (.cells #[.int .i64 (itemC c).1.kind, .bool (itemC c).1.rep.snd, .int .u32 (itemC c).1.rep.src, .int .u32 (itemC c).1.rep.inf.sec, .int .u32 (itemC c).1.rep.inf.frac, .int .u32 (itemC c).1.rep.inf.stamp, .int .u32 (itemC c).1.rep.inf.pkts, .int .u32 (itemC c).1.rep.inf.octs, .slice ob (itemC c).1.rep.bl.length cb, .int .i64 (itemC c).1.msg.kind, .int .u32 (itemC c).1.msg.snd, .int .u32 (itemC c).1.msg.med, .slice oc (itemC c).1.msg.asks.length cc, .slice od (itemC c).1.msg.lost.length cd, .int .u8 (itemC c).1.oth.1, .int .u8 (itemC c).1.oth.2.1, .slice of (itemC c).1.oth.2.2.1.length cf] 122))))) | (refine wpList_store_new rfl 122 (.tmp 10) (.tmp 30) rfl w2 _ #[.int .i64 (itemC c).1.kind, .bool (itemC c).1.rep.snd, .int .u32 (itemC c).1.rep.src, .int .u32 (itemC c).1.rep.inf.sec, .int .u32 (itemC c).1.rep.inf.frac, .int .u32 (itemC c).1.rep.inf.stamp, .int .u32 (itemC c).1.rep.inf.pkts, .int .u32 (itemC c).1.rep.inf.octs, .slice ob (itemC c).1.rep.bl.length cb, .int .i64 (itemC c).1.msg.kind, .int .u32 (itemC c).1.msg.snd, .int .u32 (itemC c).1.msg.med, .slice oc (itemC c).1.msg.asks.length cc, .slice od (itemC c).1.msg.lost.length cd, .int .u8 (itemC c).1.oth.1, .int .u8 (itemC c).1.oth.2.1, .slice of (itemC c).1.oth.2.2.1.length cf] rfl rfl rfl (by kernel_rfl) rfl (all_oneCell_toArray (by simp [Value.oneCell'])) ?_) | (refine wpList_load_row rfl 122 (.tmp 10) rfl w2.heap.size rfl _ #[.int .i64 (itemC c).1.kind, .bool (itemC c).1.rep.snd, .int .u32 (itemC c).1.rep.src, .int .u32 (itemC c).1.rep.inf.sec, .int .u32 (itemC c).1.rep.inf.frac, .int .u32 (itemC c).1.rep.inf.stamp, .int .u32 (itemC c).1.rep.inf.pkts, .int .u32 (itemC c).1.rep.inf.octs, .slice ob (itemC c).1.rep.bl.length cb, .int .i64 (itemC c).1.msg.kind, .int .u32 (itemC c).1.msg.snd, .int .u32 (itemC c).1.msg.med, .slice oc (itemC c).1.msg.asks.length cc, .slice od (itemC c).1.msg.lost.length cd, .int .u8 (itemC c).1.oth.1, .int .u8 (itemC c).1.oth.2.1, .slice of (itemC c).1.oth.2.2.1.length cf] _ _ (heap_alloc_new w2 _) Try.underlying122 rfl (by kernel_rfl) ?_) | (at_builtin; refine wpList_append_row _ rfl (.tmp 32) (.tmp 34) 117 rfl w1.heap.size 122 i0 (.agg #[.int .i64 0, .bool false, .int .u32 0, .int .u32 0, .int .u32 0, .int .u32 0, .int .u32 0, .int .u32 0, .slice none 0 0, .int .i64 0, .int .u32 0, .int .u32 0, .slice none 0 0, .slice none 0 0, .int .u8 0, .int .u8 0, .slice none 0 0]) 17 160 Try.underlying117 hi hz0 hz1 hz2 rfl (by decide) _ (acc.map fun c => (itemC c).1) rfl J2.out.row (w2.heap.size + 1) [.int .i64 (itemC c).1.kind, .bool (itemC c).1.rep.snd, .int .u32 (itemC c).1.rep.src, .int .u32 (itemC c).1.rep.inf.sec, .int .u32 (itemC c).1.rep.inf.frac, .int .u32 (itemC c).1.rep.inf.stamp, .int .u32 (itemC c).1.rep.inf.pkts, .int .u32 (itemC c).1.rep.inf.octs, .slice ob (itemC c).1.rep.bl.length cb, .int .i64 (itemC c).1.msg.kind, .int .u32 (itemC c).1.msg.snd, .int .u32 (itemC c).1.msg.med, .slice oc (itemC c).1.msg.asks.length cc, .slice od (itemC c).1.msg.lost.length cd, .int .u8 (itemC c).1.oth.1, .int .u8 (itemC c).1.oth.2.1, .slice of (itemC c).1.oth.2.2.1.length cf] (itemC c).1 rfl rfl (new_cells (by simp)) (by simp [Value.oneCell']) ((itm_off S2.out (itemC_ok HCK.out) A1.out A2.out A3.out A4.out).on ((More.alloc _ _).al _)) (fun b h => owns_lt J2.out.errs h) (by decide) (by have := HLJ.out; rw [List.length_map]; omega) J2.out.more.size ?_; intro v8 w8 ho8 hg8 hb8; have J8 := Lib.hid (J2.out.put ho8 hg8); obtain ⟨o8, n8, c8', rfl, hz8, hz9⟩ := ho8.shape; clear ho8 hg8 hb8 hz8 hz9) | (at_builtin; refine wpList_append_at _ rfl (.tmp 36) (.tmp 38) 203 rfl w1.heap.size 32 j0 (.int .i64 0) 8 Try.underlying203 ji jz0 jz1 jz2 rfl _ .i64 (acc.map fun c => (itemC c).2) rfl (J8.out.on (More.alloc _ _)).errs _ [(itemC c).2] rfl (SlI.lit .i64 w8 [(itemC c).2] 32 _ 1 _ rfl rfl rfl (by simp)) (by have := HLJ.out; rw [List.length_map]; simp; omega) (by decide) (by have := J8.out.more.size; simp; omega) ?_; intro v9 w9 ho9 hg9 hx9; have J9 := Lib.hid ((J8.out.on (More.alloc _ _)).err ho9 hg9 hx9); obtain ⟨o9, c9', e9⟩ := owns_shapeC ho9; rw [show ((acc.map fun c => (itemC c).2) ++ [(itemC c).2]).length = acc.length + 1 from by simp] at e9; subst e9; clear ho9 hg9 hx9))
      go_roundw
      case rel => exact ⟨j + 1, by omega, by go_num, _, _, _, _, _, _, rfl, rfl, by rw [HS.out, List.map_append, List.map_append]; exact J9.out⟩
      case measure => simp [intOf]; omega
    · obtain rfl : j = l.length := by omega
      rw [List.take_length] at HJ
      have HLM : Hid ((l.map fun c => (itemC c).2).length ≤ 1000) := Lib.hid (by
        rw [List.length_map]
        by_cases he : 0 < l.length
        · have := (szC_body HSZ.out 0 he).2; omega
        · omega)
      by_cases hf : firstE (l.map fun c => (itemC c).2) = 0
      · have HF := Lib.hid hf
        rw [if_pos hf] at HR
        clear hf
        go_wp2_with (go_at_call 125; ((with_reducible refine (FirstE_any (l.map fun c => (itemC c).2) _ _ (SlI.of_owns HJ.out.errs (by have := HLM.out; omega))).mono ?_); rintro e w3 ⟨rfl, rfl⟩; rw [HF.out]))
        go_ret2
        exact ⟨_, by rw [HR.out]; rfl, by rw [HR.out]; exact HJ.out.row.sl (by decide), M1.out.trans HJ.out.more⟩
      · have b0 : (firstE (l.map fun c => (itemC c).2) != 0) = true := by simp [hf]
        rw [if_neg hf] at HR
        clear hf
        go_wp2_with (go_at_call 125; ((with_reducible refine (FirstE_any (l.map fun c => (itemC c).2) _ _ (SlI.of_owns HJ.out.errs (by have := HLM.out; omega))).mono ?_); rintro e w3 ⟨rfl, rfl⟩))
        go_ret2
        exact ⟨_, by rw [HR.out]; rfl, by rw [HR.out]; exact SlP.nil _ _ _, M1.out.trans HJ.out.more⟩
theorem ReadI_any (b : List Int) (v : Value) (w : World) (sl : SlI .u8 w v b) (hb : Byt b) (hl : b.length ≤ 1000000) :
    Calls Try.prog 62 #[v] w fun e w' => ∃ vx, e = .returned (.tuple #[vx, .int .i64 (readI b).2]) ∧ SlP 17 RItm w' vx (readI b).1 ∧ More w w' := by
  by_cases h0 : (splitC b).2 = 0
  · exact ReadI_main b v w sl hb hl h0
  · exact ReadI_err b v w sl hb hl h0
end Go.Proofs.Ytlnikmcimmnbmaa
/- The laws of compound: what is too much. -/
namespace Go.Proofs.Ytlnikmcimmnbmaa
set_option linter.unusedSimpArgs false
set_option linter.unusedVariables false
open Go.RowKit Go.Lib
set_option maxRecDepth 100000

/-- Is an item more than is looked at? -/
def bigI (x : Itm) : Bool := decide (300 < x.rep.bl.length) || decide (300 < x.msg.asks.length) || decide (300 < x.msg.lost.length) || decide (400 < x.oth.2.2.1.length)
def lrgI (l : List Itm) : Bool := decide (20 < l.length) || l.any bigI
theorem bigI_no {x : Itm} (h : bigI x = false) : x.rep.bl.length ≤ 300 ∧ x.msg.asks.length ≤ 300 ∧ x.msg.lost.length ≤ 300 ∧ x.oth.2.2.1.length ≤ 400 := by
  unfold bigI at h
  simp at h
  omega
theorem lrgI_no {l : List Itm} (h : lrgI l = false) : l.length ≤ 20 ∧ ∀ x ∈ l, bigI x = false := by
  unfold lrgI at h
  rw [Bool.or_eq_false_iff] at h
  exact ⟨by simpa using h.1, fun x hx => by simpa using List.any_eq_false.1 h.2 x hx⟩
theorem lrgI_small {l : List Itm} (h : lrgI l = false) : l.length ≤ 20 ∧ ∀ x ∈ l, ItmN x := by
  obtain ⟨h1, h2⟩ := lrgI_no h
  refine ⟨h1, fun x hx => ?_⟩
  have := bigI_no (h2 x hx)
  exact ⟨by omega, by omega, by omega, by omega⟩
theorem lrgI_no_of {l : List Itm} (h : l.length ≤ 20) (k : ∀ i, i < l.length → bigI (l.getD i itm0) = false) : lrgI l = false := by
  unfold lrgI
  rw [Bool.or_eq_false_iff]
  refine ⟨by simpa using h, List.any_eq_false.2 fun t ht => ?_⟩
  obtain ⟨i, hi, rfl⟩ := List.mem_iff_getElem.1 ht
  have := k i hi
  simp [hi] at this
  simp [this]
theorem lrgI_yes {l : List Itm} {i : Nat} (hi : i < l.length) (h : bigI (l.getD i itm0) = true) : lrgI l = true := by
  unfold lrgI
  rw [Bool.or_eq_true]
  exact Or.inr (List.any_eq_true.2 ⟨l.getD i itm0, by simp [hi], h⟩)
set_option maxHeartbeats 2000000 in
theorem large10 (v : Value) (l : List Itm) (w : World) (sl : SlP 17 RItm w v l) :
    Calls Try.prog 61 #[v] w fun e w' => e = .returned (.bool (lrgI l)) ∧ More w w' := by
  obtain ⟨oa, cap, rfl, hl63, hel, _⟩ := items sl
  clear sl
  by_cases hlen : (l.length : Int) ≤ 20
  · go_enter Try.func61, Try.ntmps61
    go_wp2
    go_loopw [10] (fun i wr => ∃ j : Nat, j ≤ l.length ∧ i = .int .i64 j ∧ (∀ i, i < j → bigI (l.getD i itm0) = false) ∧ More w wr) (fun i _ => l.length - (intOf i).toNat)
    case atStart => exact ⟨0, by omega, rfl, fun i hi => by omega, More.refl _⟩
    case round =>
      obtain ⟨j, hj, rfl, hall, hmr⟩ := hrel
      by_cases hlt : j < l.length
      · obtain ⟨b, off, ob, cb, oc, cc, od, cd, oe, ce, rfl, hb, ht, hs⟩ := hel j hlt
        have HRG := Lib.hid (RangeAt.more ht hmr hb)
        have hjl : (j : Int) < (l.length : Int) := by omega
        have hbw : b < wr.heap.size := Nat.lt_of_lt_of_le hb hmr.size
        have HALL := Lib.hid hall
        have HMR := Lib.hid hmr
        obtain ⟨x, hx⟩ : ∃ x, l.getD j itm0 = x := ⟨_, rfl⟩
        have HXE := Lib.hid hx
        rw [hx] at HRG
        clear hall ht hs hmr hx
        by_cases h1 : (300 : Int) < (x.rep.bl.length : Int)
        · skip
          have hy := Lib.hid (lrgI_yes hlt (by unfold bigI; rw [HXE.out]; simp; omega))
          clear hel
          go_wp2_with (first | (refine wpList_load_mid rfl 122 (.tmp 12) rfl b (off + j * 17) rfl [.int .i64 x.kind, .bool x.rep.snd, .int .u32 x.rep.src, .int .u32 x.rep.inf.sec, .int .u32 x.rep.inf.frac, .int .u32 x.rep.inf.stamp, .int .u32 x.rep.inf.pkts, .int .u32 x.rep.inf.octs, .slice ob x.rep.bl.length cb, .int .i64 x.msg.kind, .int .u32 x.msg.snd, .int .u32 x.msg.med, .slice oc x.msg.asks.length cc, .slice od x.msg.lost.length cd, .int .u8 x.oth.1, .int .u8 x.oth.2.1, .slice oe x.oth.2.2.1.length ce] _ HRG.out Try.underlying122 rfl (by kernel_rfl) ?_) | (refine wpList_store_new rfl 122 (.tmp 4) (.tmp 13) rfl wr _ #[.int .i64 x.kind, .bool x.rep.snd, .int .u32 x.rep.src, .int .u32 x.rep.inf.sec, .int .u32 x.rep.inf.frac, .int .u32 x.rep.inf.stamp, .int .u32 x.rep.inf.pkts, .int .u32 x.rep.inf.octs, .slice ob x.rep.bl.length cb, .int .i64 x.msg.kind, .int .u32 x.msg.snd, .int .u32 x.msg.med, .slice oc x.msg.asks.length cc, .slice od x.msg.lost.length cd, .int .u8 x.oth.1, .int .u8 x.oth.2.1, .slice oe x.oth.2.2.1.length ce] rfl rfl rfl (by kernel_rfl) rfl rfl ?_))
          go_ret
          exact ⟨by rw [hy.out]; rfl, HMR.out.al _⟩
        · by_cases h2 : (300 : Int) < (x.msg.asks.length : Int)
          · skip
            have hy := Lib.hid (lrgI_yes hlt (by unfold bigI; rw [HXE.out]; simp; omega))
            clear hel
            go_wp2_with (first | (refine wpList_load_mid rfl 122 (.tmp 12) rfl b (off + j * 17) rfl [.int .i64 x.kind, .bool x.rep.snd, .int .u32 x.rep.src, .int .u32 x.rep.inf.sec, .int .u32 x.rep.inf.frac, .int .u32 x.rep.inf.stamp, .int .u32 x.rep.inf.pkts, .int .u32 x.rep.inf.octs, .slice ob x.rep.bl.length cb, .int .i64 x.msg.kind, .int .u32 x.msg.snd, .int .u32 x.msg.med, .slice oc x.msg.asks.length cc, .slice od x.msg.lost.length cd, .int .u8 x.oth.1, .int .u8 x.oth.2.1, .slice oe x.oth.2.2.1.length ce] _ HRG.out Try.underlying122 rfl (by kernel_rfl) ?_) | (refine wpList_store_new rfl 122 (.tmp 4) (.tmp 13) rfl wr _ #[.int .i64 x.kind, .bool x.rep.snd, .int .u32 x.rep.src, .int .u32 x.rep.inf.sec, .int .u32 x.rep.inf.frac, .int .u32 x.rep.inf.stamp, .int .u32 x.rep.inf.pkts, .int .u32 x.rep.inf.octs, .slice ob x.rep.bl.length cb, .int .i64 x.msg.kind, .int .u32 x.msg.snd, .int .u32 x.msg.med, .slice oc x.msg.asks.length cc, .slice od x.msg.lost.length cd, .int .u8 x.oth.1, .int .u8 x.oth.2.1, .slice oe x.oth.2.2.1.length ce] rfl rfl rfl (by kernel_rfl) rfl rfl ?_))
            go_ret
            exact ⟨by rw [hy.out]; rfl, HMR.out.al _⟩
          · by_cases h3 : (300 : Int) < (x.msg.lost.length : Int)
            · skip
              have hy := Lib.hid (lrgI_yes hlt (by unfold bigI; rw [HXE.out]; simp; omega))
              clear hel
              go_wp2_with (first | (refine wpList_load_mid rfl 122 (.tmp 12) rfl b (off + j * 17) rfl [.int .i64 x.kind, .bool x.rep.snd, .int .u32 x.rep.src, .int .u32 x.rep.inf.sec, .int .u32 x.rep.inf.frac, .int .u32 x.rep.inf.stamp, .int .u32 x.rep.inf.pkts, .int .u32 x.rep.inf.octs, .slice ob x.rep.bl.length cb, .int .i64 x.msg.kind, .int .u32 x.msg.snd, .int .u32 x.msg.med, .slice oc x.msg.asks.length cc, .slice od x.msg.lost.length cd, .int .u8 x.oth.1, .int .u8 x.oth.2.1, .slice oe x.oth.2.2.1.length ce] _ HRG.out Try.underlying122 rfl (by kernel_rfl) ?_) | (refine wpList_store_new rfl 122 (.tmp 4) (.tmp 13) rfl wr _ #[.int .i64 x.kind, .bool x.rep.snd, .int .u32 x.rep.src, .int .u32 x.rep.inf.sec, .int .u32 x.rep.inf.frac, .int .u32 x.rep.inf.stamp, .int .u32 x.rep.inf.pkts, .int .u32 x.rep.inf.octs, .slice ob x.rep.bl.length cb, .int .i64 x.msg.kind, .int .u32 x.msg.snd, .int .u32 x.msg.med, .slice oc x.msg.asks.length cc, .slice od x.msg.lost.length cd, .int .u8 x.oth.1, .int .u8 x.oth.2.1, .slice oe x.oth.2.2.1.length ce] rfl rfl rfl (by kernel_rfl) rfl rfl ?_))
              go_ret
              exact ⟨by rw [hy.out]; rfl, HMR.out.al _⟩
            · by_cases h4 : (400 : Int) < (x.oth.2.2.1.length : Int)
              · skip
                have hy := Lib.hid (lrgI_yes hlt (by unfold bigI; rw [HXE.out]; simp; omega))
                clear hel
                go_wp2_with (first | (refine wpList_load_mid rfl 122 (.tmp 12) rfl b (off + j * 17) rfl [.int .i64 x.kind, .bool x.rep.snd, .int .u32 x.rep.src, .int .u32 x.rep.inf.sec, .int .u32 x.rep.inf.frac, .int .u32 x.rep.inf.stamp, .int .u32 x.rep.inf.pkts, .int .u32 x.rep.inf.octs, .slice ob x.rep.bl.length cb, .int .i64 x.msg.kind, .int .u32 x.msg.snd, .int .u32 x.msg.med, .slice oc x.msg.asks.length cc, .slice od x.msg.lost.length cd, .int .u8 x.oth.1, .int .u8 x.oth.2.1, .slice oe x.oth.2.2.1.length ce] _ HRG.out Try.underlying122 rfl (by kernel_rfl) ?_) | (refine wpList_store_new rfl 122 (.tmp 4) (.tmp 13) rfl wr _ #[.int .i64 x.kind, .bool x.rep.snd, .int .u32 x.rep.src, .int .u32 x.rep.inf.sec, .int .u32 x.rep.inf.frac, .int .u32 x.rep.inf.stamp, .int .u32 x.rep.inf.pkts, .int .u32 x.rep.inf.octs, .slice ob x.rep.bl.length cb, .int .i64 x.msg.kind, .int .u32 x.msg.snd, .int .u32 x.msg.med, .slice oc x.msg.asks.length cc, .slice od x.msg.lost.length cd, .int .u8 x.oth.1, .int .u8 x.oth.2.1, .slice oe x.oth.2.2.1.length ce] rfl rfl rfl (by kernel_rfl) rfl rfl ?_))
                go_ret
                exact ⟨by rw [hy.out]; rfl, HMR.out.al _⟩
              · have HJ : Hid (bigI (l.getD j itm0) = false) := Lib.hid (by unfold bigI; rw [HXE.out]; simp; omega)
                go_wp2_with (first | (refine wpList_load_mid rfl 122 (.tmp 12) rfl b (off + j * 17) rfl [.int .i64 x.kind, .bool x.rep.snd, .int .u32 x.rep.src, .int .u32 x.rep.inf.sec, .int .u32 x.rep.inf.frac, .int .u32 x.rep.inf.stamp, .int .u32 x.rep.inf.pkts, .int .u32 x.rep.inf.octs, .slice ob x.rep.bl.length cb, .int .i64 x.msg.kind, .int .u32 x.msg.snd, .int .u32 x.msg.med, .slice oc x.msg.asks.length cc, .slice od x.msg.lost.length cd, .int .u8 x.oth.1, .int .u8 x.oth.2.1, .slice oe x.oth.2.2.1.length ce] _ HRG.out Try.underlying122 rfl (by kernel_rfl) ?_) | (refine wpList_store_new rfl 122 (.tmp 4) (.tmp 13) rfl wr _ #[.int .i64 x.kind, .bool x.rep.snd, .int .u32 x.rep.src, .int .u32 x.rep.inf.sec, .int .u32 x.rep.inf.frac, .int .u32 x.rep.inf.stamp, .int .u32 x.rep.inf.pkts, .int .u32 x.rep.inf.octs, .slice ob x.rep.bl.length cb, .int .i64 x.msg.kind, .int .u32 x.msg.snd, .int .u32 x.msg.med, .slice oc x.msg.asks.length cc, .slice od x.msg.lost.length cd, .int .u8 x.oth.1, .int .u8 x.oth.2.1, .slice oe x.oth.2.2.1.length ce] rfl rfl rfl (by kernel_rfl) rfl rfl ?_))
                go_roundw
                case rel => exact ⟨j + 1, by omega, by go_num, (fun i hi => by
                    by_cases e : i < j
                    · exact HALL.out i e
                    · obtain rfl : i = j := by omega
                      exact HJ.out), HMR.out.al _⟩
                case measure => simp [intOf]; omega
      · obtain rfl : j = l.length := by omega
        have hy := Lib.hid (lrgI_no_of (by omega) hall)
        clear hall hel
        go_wp2
        go_ret
        exact ⟨by rw [hy.out]; rfl, hmr⟩
  · have hy : lrgI l = true := by unfold lrgI; rw [Bool.or_eq_true]; exact Or.inl (by simpa using by omega)
    have HY := Lib.hid hy
    clear hy hel
    go_enter Try.func61, Try.ntmps61
    go_wp2
    go_ret
    exact ⟨by rw [HY.out]; rfl, More.refl _⟩
end Go.Proofs.Ytlnikmcimmnbmaa
