/- Merged from my texts CompD. -/
import Derived.Test.YtlnikmcimmnbmaaMg31
/- Package compound: the chunks of items; Write. -/
namespace Go.Proofs.Ytlnikmcimmnbmaa
set_option linter.unusedSimpArgs false
set_option linter.unusedVariables false
open Go.RowKit Go.Lib
set_option maxRecDepth 100000

theorem RowP.other {α : Type} {n : Nat} {R : Reader α} {D D' : Nat → Prop} {w : World} {base e : Nat} {v : Value} {L : List α} (h : RowP n R D w base e v L) (k : ∀ b, D' b → D b ∨ w.heap.size ≤ b) : RowP n R D' w base e v L := by
  obtain ⟨⟨xs, h1, h3⟩, h4⟩ := id h
  refine ⟨⟨xs, h1, fun i hi => (h3 i hi).other fun b hb => ?_⟩, fun b hb hd => ?_⟩
  · rcases hb with hb | hb
    · exact (k b hb).elim (fun x => Or.inl (Or.inl x)) Or.inr
    · exact Or.inl (Or.inr hb)
  · rcases k b hd with x | x
    · exact h4 b hb x
    · have := h.lt hb; omega
/-- A row beside another one that grows. -/
theorem RowP.beside {α : Type} {n : Nat} {R : Reader α} {w w' : World} {base e : Nat} {v u u' : Value} {L : List α} (h : RowP n R (fun b => u.ownBlock = some b) w base e v L) (g : w.grownBy w' u.ownBlock) (hu : u'.ownBlock = u.ownBlock ∨ u'.ownBlock = some w.heap.size) : RowP n R (fun b => u'.ownBlock = some b) w' base e v L := by
  have h2 := h.other (D' := fun b => u.ownBlock = some b ∨ w.heap.size ≤ b) (fun b hb => hb)
  have a : Away (fun b => u.ownBlock = some b ∨ w.heap.size ≤ b) w w' := ⟨g.os, g.tape, g.output, g.size, fun k hk hs => g.block k hk (fun e => hs (Or.inl e.symm))⟩
  refine (h2.step a).other fun b hb => Or.inl ?_
  rcases hu with e | e
  · exact Or.inl (by rw [← e]; exact hb)
  · rw [e] at hb; injection hb with hb; exact Or.inr (by omega)
theorem chunk_off {D : Nat → Prop} {w : World} {vx : Value} {c : Chunk} (s : SlI .u8 w vx c.2.2.1) (hk : ChunkOK c) (ap : c.2.2.1 ≠ [] → ∀ g, vx.ownBlock = some g → ¬ D g) : RdOff RChunk D w [.int .u8 c.1, .int .u8 c.2.1, vx] c :=
  fun _ a => chunk_mk (s.off2 ap a) hk
theorem owns_shapeC {w : World} {base e size n : Nat} {v : Value} {xs : List Value} (h : w.ownsRow base e size v n xs) : ∃ oa cap, v = .slice oa n cap := by
  rcases h.2 with ⟨rfl, h0⟩ | ⟨g, cap, cur, rfl, _⟩
  · exact ⟨none, 0, by rw [h0]⟩
  · exact ⟨_, cap, rfl⟩
theorem chunkI_ok {x : Itm} (ok : ItmOK x) : ChunkOK (chunkI x).1 := by
  unfold chunkI
  split
  · exact oth0_ok
  split
  · exact writeR_ok ok.rep
  split
  · exact writeM_ok ok.msg
  · exact ok.oth
/-- The loop of chunksOf. -/
structure ChJ (w wr : World) (u v : Value) (A : List Chunk) (E : List Int) : Prop where
  row : RowP 3 RChunk (fun b => v.ownBlock = some b) wr w.heap.size 30 u A
  errs : wr.ownsRow w.heap.size 32 1 v E.length (E.map (Value.int .i64))
  more : More w wr
theorem ChJ.on {w wr w' : World} {u v : Value} {A : List Chunk} {E : List Int} (h : ChJ w wr u v A E) (m : More wr w') : ChJ w w' u v A E := ⟨h.row.on m, owns_more h.errs m, h.more.trans m⟩
theorem ChJ.put {w wr w' : World} {u v u' : Value} {A A' : List Chunk} {E : List Int} (h : ChJ w wr u v A E) (ho : RowP 3 RChunk (fun b => v.ownBlock = some b) w' w.heap.size 30 u' A') (g : wr.grownBy w' u.ownBlock) : ChJ w w' u' v A' E :=
  ⟨ho, owns_grown h.errs g (fun b hb e => h.row.apart b e hb), Below.grown h.more g h.more.size (fun k hk => h.row.ge hk)⟩
theorem ChJ.err {w wr w' : World} {u v v' : Value} {A : List Chunk} {E E' : List Int} (h : ChJ w wr u v A E) (ho : w'.ownsRow w.heap.size 32 1 v' E'.length (E'.map (Value.int .i64))) (g : wr.grownBy w' v.ownBlock) (hv : v'.ownBlock = v.ownBlock ∨ v'.ownBlock = some wr.heap.size) : ChJ w w' u v' A E' :=
  ⟨h.row.beside g hv, ho, Below.grown h.more g h.more.size (fun k hk => owns_ge h.errs hk)⟩
theorem chunk_apart {w wr w0 : World} {u v : Value} {o1 oe : Option Addr} {p1 ce : Nat} {A : List Chunk} {E : List Int} {c lo : List Int} (h : ChJ w wr u v A E) (f : FromB w0 (.slice o1 c.length p1) (.slice oe lo.length ce)) (so : SlI .u8 w (.slice oe lo.length ce) lo) (hs : wr.heap.size ≤ w0.heap.size) :
    c ≠ [] → ∀ g, (Value.slice o1 c.length p1).ownBlock = some g → ¬ (v.ownBlock = some g ∨ u.ownBlock = some g) := by
  intro hne g hg hx
  rcases f with f | f
  · have h1 := f g hg
    rcases hx with hx | hx
    · have := owns_lt h.errs hx; omega
    · have := h.row.lt hx; omega
  · have f2 := f
    injection f2 with _ f2 _
    have hlo : lo ≠ [] := fun e => hne (List.eq_nil_of_length_eq_zero (by rw [f2, e]; rfl))
    rw [f] at hg
    have h1 := so.old hlo hg
    rcases hx with hx | hx
    · have := owns_ge h.errs hx; omega
    · have := h.row.ge hx; omega
set_option maxHeartbeats 8000000 in
theorem ChunksOf_any (l : List Itm) (v : Value) (w : World) (sl : SlP 17 RItm w v l) (hl : l.length ≤ 1000) (hn : ∀ x ∈ l, ItmN x) :
    Calls Try.prog 130 #[v] w fun e w' => ∃ vx, e = .returned (.tuple #[vx, .int .i64 (firstE (l.map fun x => (chunkI x).2))]) ∧ SlP 3 RChunk w' vx (l.map fun x => (chunkI x).1) ∧ More w w' := by
  obtain ⟨i0, hi, hz0, hz1, hz2⟩ := info_parts (P := Try.prog) (e := 30) (z := .agg #[.int .u8 0, .int .u8 0, .slice none 0 0]) (size := 3) (bytes := 32) (by kernel_rfl)
  obtain ⟨j0, ji, jz0, jz1, jz2⟩ := info_parts (P := Try.prog) (e := 32) (z := .int .i64 0) (size := 1) (bytes := 8) (by kernel_rfl)
  obtain ⟨oa, cap, rfl, hl63, hel, hok⟩ := items sl
  have HEL := Lib.hid hel
  have HOK := Lib.hid hok
  have HN := Lib.hid hn
  have J0 : Hid (ChJ w w (.slice none 0 0) (.slice none 0 0) [] []) := Lib.hid ⟨RowP.nil _ _ _ _ _ _, World.ownsRow_nil _ _ _ _, More.refl _⟩
  clear sl hel hok hn
  go_enter Try.func130, Try.ntmps130
  go_wp2
  go_loopw [4, 5, 12] (fun u v ix wr => ∃ (j : Nat), j ≤ l.length ∧ ix = .int .i64 j ∧ (∃ ou nu cu ov nv cv, u = .slice ou nu cu ∧ v = .slice ov nv cv ∧ ChJ w wr (.slice ou nu cu) (.slice ov nv cv) ((l.take j).map fun x => (chunkI x).1) ((l.take j).map fun x => (chunkI x).2))) (fun _ _ ix _ => l.length - (intOf ix).toNat)
  case atStart => exact ⟨0, by omega, rfl, _, _, _, _, _, _, rfl, rfl, J0.out⟩
  case round =>
    obtain ⟨j, hj, rfl, ou, nu, cu, ov, nv, cv, rfl, rfl, hJ⟩ := hrel
    have HJ := Lib.hid hJ
    clear hJ
    by_cases hlt : j < l.length
    · obtain ⟨b, off, ob, cb, oc, cc, od, cd, oe, ce, rfl, hb, ht, hs⟩ := HEL.out j hlt
      have HRG := Lib.hid (RangeAt.more ht HJ.out.more hb)
      have hmem : l.getD j itm0 ∈ l := by rw [List.getD_eq_getElem?_getD, List.getElem?_eq_getElem hlt]; exact List.getElem_mem hlt
      have HKX := Lib.hid (HOK.out _ hmem)
      have HNX := Lib.hid (HN.out _ hmem)
      have HS0 := Lib.hid hs
      have hjl : (j : Int) < (l.length : Int) := by omega
      have hbw : b < wr.heap.size := Nat.lt_of_lt_of_le hb HJ.out.more.size
      have HS := Lib.hid (getD_snoc l j itm0 hlt)
      have HLJ : Hid ((l.take j).length = j) := Lib.hid (by simp; omega)
      clear ht hs hmem
      generalize l.take j = acc at *
      generalize l.getD j itm0 = x at *
      have HSW := Lib.hid (HS0.out.keep HJ.out.more)
      go_wp2_with (first | (refine wpList_load_mid rfl 122 (.tmp 14) rfl b (off + j * 17) rfl [.int .i64 x.kind, .bool x.rep.snd, .int .u32 x.rep.src, .int .u32 x.rep.inf.sec, .int .u32 x.rep.inf.frac, .int .u32 x.rep.inf.stamp, .int .u32 x.rep.inf.pkts, .int .u32 x.rep.inf.octs, .slice ob x.rep.bl.length cb, .int .i64 x.msg.kind, .int .u32 x.msg.snd, .int .u32 x.msg.med, .slice oc x.msg.asks.length cc, .slice od x.msg.lost.length cd, .int .u8 x.oth.1, .int .u8 x.oth.2.1, .slice oe x.oth.2.2.1.length ce] _ HRG.out Try.underlying122 rfl (by kernel_rfl) ?_) | (refine wpList_store_new rfl 122 (.tmp 7) (.tmp 15) rfl wr _ #[.int .i64 x.kind, .bool x.rep.snd, .int .u32 x.rep.src, .int .u32 x.rep.inf.sec, .int .u32 x.rep.inf.frac, .int .u32 x.rep.inf.stamp, .int .u32 x.rep.inf.pkts, .int .u32 x.rep.inf.octs, .slice ob x.rep.bl.length cb, .int .i64 x.msg.kind, .int .u32 x.msg.snd, .int .u32 x.msg.med, .slice oc x.msg.asks.length cc, .slice od x.msg.lost.length cd, .int .u8 x.oth.1, .int .u8 x.oth.2.1, .slice oe x.oth.2.2.1.length ce] rfl rfl rfl (by kernel_rfl) rfl rfl ?_) | (refine wpList_load_row rfl 122 (.tmp 7) rfl wr.heap.size rfl _ #[.int .i64 x.kind, .bool x.rep.snd, .int .u32 x.rep.src, .int .u32 x.rep.inf.sec, .int .u32 x.rep.inf.frac, .int .u32 x.rep.inf.stamp, .int .u32 x.rep.inf.pkts, .int .u32 x.rep.inf.octs, .slice ob x.rep.bl.length cb, .int .i64 x.msg.kind, .int .u32 x.msg.snd, .int .u32 x.msg.med, .slice oc x.msg.asks.length cc, .slice od x.msg.lost.length cd, .int .u8 x.oth.1, .int .u8 x.oth.2.1, .slice oe x.oth.2.2.1.length ce] _ _ (heap_alloc_new wr _) Try.underlying122 rfl (by kernel_rfl) ?_) | (go_at_call 153; ((with_reducible refine (ChunkOf_any x ob oc od oe cb cc cd ce _ (HSW.out.keep (More.alloc _ _)) HKX.out HNX.out).mono ?_); rintro e w1 ⟨vx, rfl, s1, m1, f1⟩; have S1 := Lib.hid s1; have F1 := Lib.hid f1; have M1 := Lib.hid ((More.alloc wr (.cells #[.int .i64 x.kind, .bool x.rep.snd, .int .u32 x.rep.src, .int .u32 x.rep.inf.sec, .int .u32 x.rep.inf.frac, .int .u32 x.rep.inf.stamp, .int .u32 x.rep.inf.pkts, .int .u32 x.rep.inf.octs, .slice ob x.rep.bl.length cb, .int .i64 x.msg.kind, .int .u32 x.msg.snd, .int .u32 x.msg.med, .slice oc x.msg.asks.length cc, .slice od x.msg.lost.length cd, .int .u8 x.oth.1, .int .u8 x.oth.2.1, .slice oe x.oth.2.2.1.length ce] 122)).trans m1); obtain ⟨o1, p1, rfl, _⟩ := s1; have J1 := Lib.hid ((HJ.out.on M1.out).on ((More.alloc w1 (.cells #[.int .u8 (chunkI x).1.1, .int .u8 (chunkI x).1.2.1, .slice o1 (chunkI x).1.2.2.1.length p1] 30)).al (.cells #[.int .u8 (chunkI x).1.1, .int .u8 (chunkI x).1.2.1, .slice o1 (chunkI x).1.2.2.1.length p1] 30))); have AP : Hid ((chunkI x).1.2.2.1 ≠ [] → ∀ g, (Value.slice o1 (chunkI x).1.2.2.1.length p1).ownBlock = some g → ¬ ((Value.slice ov nv cv).ownBlock = some g ∨ (Value.slice ou nu cu).ownBlock = some g)) := Lib.hid (chunk_apart HJ.out F1.out HS0.out.bo (More.alloc wr _).size); clear m1 f1)) | (at_builtin; refine wpList_append_row _ rfl (.tmp 21) (.tmp 23) 200 rfl w.heap.size 30 i0 (.agg #[.int .u8 0, .int .u8 0, .slice none 0 0]) 3 32 Try.underlying200 hi hz0 hz1 hz2 rfl (by decide) _ (acc.map fun x => (chunkI x).1) rfl J1.out.row (w1.heap.size + 1) [.int .u8 (chunkI x).1.1, .int .u8 (chunkI x).1.2.1, .slice o1 (chunkI x).1.2.2.1.length p1] (chunkI x).1 rfl rfl (new_cells (by simp)) (by simp [Value.oneCell']) ((chunk_off S1.out (chunkI_ok HKX.out) AP.out).on ((More.alloc _ _).al _)) (fun b h => owns_lt J1.out.errs h) (by decide) (by have := HLJ.out; rw [List.length_map]; omega) J1.out.more.size ?_; intro v8 w8 ho8 hg8 hb8; have J8 := Lib.hid (J1.out.put ho8 hg8); obtain ⟨o8, n8, c8', rfl, hz8, hz9⟩ := ho8.shape; clear ho8 hg8 hb8 hz8 hz9) | (at_builtin; refine wpList_append_at _ rfl (.tmp 25) (.tmp 27) 203 rfl w.heap.size 32 j0 (.int .i64 0) 8 Try.underlying203 ji jz0 jz1 jz2 rfl _ .i64 (acc.map fun x => (chunkI x).2) rfl (J8.out.on (More.alloc _ _)).errs _ [(chunkI x).2] rfl (SlI.lit .i64 w8 [(chunkI x).2] 32 _ 1 _ rfl rfl rfl (by simp)) (by have := HLJ.out; rw [List.length_map]; simp; omega) (by decide) (by have := J8.out.more.size; simp; omega) ?_; intro v9 w9 ho9 hg9 hx9; have J9 := Lib.hid ((J8.out.on (More.alloc _ _)).err ho9 hg9 hx9); obtain ⟨o9, c9', e9⟩ := owns_shapeC ho9; rw [show ((acc.map fun x => (chunkI x).2) ++ [(chunkI x).2]).length = acc.length + 1 from by simp] at e9; subst e9; clear ho9 hg9 hx9))
      go_roundw
      case rel => exact ⟨j + 1, by omega, by go_num, _, _, _, _, _, _, rfl, rfl, by rw [HS.out, List.map_append, List.map_append]; exact J9.out⟩
      case measure => simp [intOf]; omega
    · obtain rfl : j = l.length := by omega
      rw [List.take_length] at HJ
      have HLM : Hid ((l.map fun x => (chunkI x).2).length ≤ 1000) := Lib.hid (by rw [List.length_map]; exact hl)
      go_wp2_with (go_at_call 125; ((with_reducible refine (FirstE_any (l.map fun x => (chunkI x).2) _ _ (SlI.of_owns HJ.out.errs (by have := HLM.out; omega))).mono ?_); rintro e w3 ⟨rfl, rfl⟩))
      go_ret2
      exact ⟨_, rfl, HJ.out.row.sl (by decide), HJ.out.more⟩
theorem Join_len {l : List Itm} (hn : ∀ x ∈ l, ItmN x) (i : Nat) (hi : i < (l.map fun x => (chunkI x).1).length) : ((l.map fun x => (chunkI x).1).getD i chunk0).2.2.1.length ≤ 1000000 := by
  rw [List.length_map] at hi
  have e : (l.map fun x => (chunkI x).1).getD i chunk0 = (chunkI l[i]).1 := by simp [hi]
  rw [e]
  have h := hn _ (List.getElem_mem hi)
  generalize l[i] = x at *
  unfold chunkI
  split
  · simp [oth0]
  split
  · exact writeR_small
  split
  · have := writeM_small x.msg; omega
  · exact h.oth
theorem WriteI_any (l : List Itm) (v : Value) (w : World) (sl : SlP 17 RItm w v l) (hl : l.length ≤ 1000) (hn : ∀ x ∈ l, ItmN x) :
    Calls Try.prog 64 #[v] w fun e w' => ∃ vx, e = .returned (.tuple #[vx, .int .i64 (writeI l).2]) ∧ SlI .u8 w' vx (writeI l).1 ∧ More w w' := by
  have HC := Lib.hid (ChunksOf_any l v w sl hl hn)
  have HJL := Lib.hid (Join_len hn)
  have HLL : Hid ((l.map fun x => (chunkI x).1).length ≤ 100000) := Lib.hid (by rw [List.length_map]; omega)
  clear sl hn
  by_cases h0 : firstE (l.map fun x => (chunkI x).2) = 0
  · have HW : Hid (writeI l = joinC (l.map fun x => (chunkI x).1)) := Lib.hid (by unfold writeI; rw [if_pos h0])
    have H0 := Lib.hid h0
    clear h0
    rw [HW.out]
    go_enter Try.func64, Try.ntmps64
    go_wp2_with (first | (go_at_call 130; ((with_reducible refine (HC.out).mono ?_); rintro e w1 ⟨vx, rfl, s1, m1⟩; rw [H0.out]; have S1 := Lib.hid s1; have M1 := Lib.hid m1; clear s1 m1)) | (go_at_call 131; ((with_reducible refine (Join_any vx _ _ S1.out HLL.out HJL.out).mono ?_); rintro e w2 ⟨vy, rfl, s2, m2⟩; have S2 := Lib.hid s2; have M2 := Lib.hid (M1.out.trans m2); clear s2 m2)))
    go_ret2
    exact ⟨_, rfl, S2.out, M2.out⟩
  · have HW : Hid (writeI l = ([], firstE (l.map fun x => (chunkI x).2))) := Lib.hid (by unfold writeI; rw [if_neg h0])
    have b0 : (firstE (l.map fun x => (chunkI x).2) != 0) = true := by simp [h0]
    clear h0
    rw [HW.out]
    go_enter Try.func64, Try.ntmps64
    go_wp2_with (go_at_call 130; ((with_reducible refine (HC.out).mono ?_); rintro e w1 ⟨vx, rfl, s1, m1⟩; have M1 := Lib.hid m1; clear s1 m1))
    go_ret2
    exact ⟨_, rfl, SlI.nil _ _, M1.out⟩
end Go.Proofs.Ytlnikmcimmnbmaa
