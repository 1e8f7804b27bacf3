/- Packets: the document's Read. -/
import Derived.Test.YtlnikmcimmnbmaaHeadK
namespace Go.Proofs.Ytlnikmcimmnbmaa
set_option linter.unusedSimpArgs false
set_option linter.unusedVariables false
open Go.RowKit
set_option maxRecDepth 100000

structure HdR (w0 w : World) (R Br Bd : Nat) (v0 : Value) (L0 : List Int) (s : RdS) (q : Pk) (vs ve vp : Value) : Prop where
  rd : RRd w R v0 L0 s
  sl : SlI .u8 w0 v0 L0
  more : More w0 w
  br : w.heap[Br]? = some (.cells #[.bool false, .int .u8 0, .int .u16 0, .int .u32 0, .int .u32 0, .slice none 0 0, .bool false, .int .u16 0, .slice none 0 0, .slice none 0 0] 64 (0, 0))
  bd : w.heap[Bd]? = some (.cells #[.bool q.mr, .int .u8 q.ty, .int .u16 q.sq, .int .u32 q.st, .int .u32 q.sc, vs, .bool q.has, .int .u16 q.pr, ve, vp] 64 (0, 0))
  rs : w.ownsRow (R + 1) 22 1 vs q.ss.length (q.ss.map (Value.int .u32))
  re : w.ownsRow (R + 1) 5 1 ve q.ex.length (q.ex.map (Value.int .u8))
  rp : w.ownsRow (R + 1) 5 1 vp q.pl.length (q.pl.map (Value.int .u8))
  n0 : w0.heap.size ≤ Br
  nB : Br < Bd
  nR : Bd < R
theorem HdR.step {w0 w w' : World} {R Br Bd : Nat} {v0 : Value} {L0 : List Int} {s s' : RdS} {q : Pk} {vs ve vp : Value} (h : HdR w0 w R Br Bd v0 L0 s q vs ve vp) (r : RRd w' R v0 L0 s') (a : Away (fun b => b = R) w w') : HdR w0 w' R Br Bd v0 L0 s' q vs ve vp := by
  have := h.n0; have := h.nR; have := h.nB
  exact ⟨r, h.sl, Away.to_more h.more a (fun k hk => by omega), a.blk h.br (by omega), a.blk h.bd (by omega), owns_away h.rs a (fun k hk => by omega), owns_away h.re a (fun k hk => by omega), owns_away h.rp a (fun k hk => by omega), h.n0, h.nB, h.nR⟩
theorem HdR.on {w0 w w' : World} {R Br Bd : Nat} {v0 : Value} {L0 : List Int} {s : RdS} {q : Pk} {vs ve vp : Value} (h : HdR w0 w R Br Bd v0 L0 s q vs ve vp) (m : More w w') : HdR w0 w' R Br Bd v0 L0 s q vs ve vp :=
  ⟨h.rd.more m, h.sl, h.more.trans m, blk_more m h.br, blk_more m h.bd, owns_more h.rs m, owns_more h.re m, owns_more h.rp m, h.n0, h.nB, h.nR⟩
/-- A cell of the packet is filled. -/
theorem HdR.fill {w0 w : World} {R Br Bd : Nat} {v0 : Value} {L0 : List Int} {s : RdS} {q q' : Pk} {vs ve vp vs' ve' vp' : Value} (h : HdR w0 w R Br Bd v0 L0 s q vs ve vp) (i : Nat) (v : Value)
    (hc : (#[.bool q.mr, .int .u8 q.ty, .int .u16 q.sq, .int .u32 q.st, .int .u32 q.sc, vs, .bool q.has, .int .u16 q.pr, ve, vp] : Array Value).setIfInBounds i v = #[.bool q'.mr, .int .u8 q'.ty, .int .u16 q'.sq, .int .u32 q'.st, .int .u32 q'.sc, vs', .bool q'.has, .int .u16 q'.pr, ve', vp'])
    (rs : w.ownsRow (R + 1) 22 1 vs' q'.ss.length (q'.ss.map (Value.int .u32))) (re : w.ownsRow (R + 1) 5 1 ve' q'.ex.length (q'.ex.map (Value.int .u8))) (rp : w.ownsRow (R + 1) 5 1 vp' q'.pl.length (q'.pl.map (Value.int .u8))) :
    HdR w0 (w.setCell ⟨Bd, i, none⟩ v) R Br Bd v0 L0 s q' vs' ve' vp' := by
  have := h.n0; have := h.nR; have := h.nB
  have a : Away (fun b => b = Bd) w (w.setCell ⟨Bd, i, none⟩ v) := (Away.refl (fun b => b = Bd) w).set (p := ⟨Bd, i, none⟩) rfl _
  have m : More w0 (w.setCell ⟨Bd, i, none⟩ v) := h.more.st (p := ⟨Bd, i, none⟩) (by show _ ≤ Bd; omega) _
  exact ⟨h.rd.on (a.block R h.rd.lt (by omega)) (h.sl.keep m), h.sl, m, a.blk h.br (by omega), blk_eq (blk_set h.bd i v) hc, owns_away rs a (fun k hk => by omega), owns_away re a (fun k hk => by omega), owns_away rp a (fun k hk => by omega), h.n0, h.nB, h.nR⟩
/-- A scalar of the packet is filled. -/
theorem HdR.scal {w0 w : World} {R Br Bd : Nat} {v0 : Value} {L0 : List Int} {s : RdS} {q : Pk} {vs ve vp : Value} (h : HdR w0 w R Br Bd v0 L0 s q vs ve vp) (i : Nat) (v : Value) (q' : Pk)
    (hc : (#[.bool q.mr, .int .u8 q.ty, .int .u16 q.sq, .int .u32 q.st, .int .u32 q.sc, vs, .bool q.has, .int .u16 q.pr, ve, vp] : Array Value).setIfInBounds i v = #[.bool q'.mr, .int .u8 q'.ty, .int .u16 q'.sq, .int .u32 q'.st, .int .u32 q'.sc, vs, .bool q'.has, .int .u16 q'.pr, ve, vp]) (h1 : q'.ss = q.ss) (h2 : q'.ex = q.ex) (h3 : q'.pl = q.pl) : HdR w0 (w.setCell ⟨Bd, i, none⟩ v) R Br Bd v0 L0 s q' vs ve vp :=
  h.fill i v hc (by rw [h1]; exact h.rs) (by rw [h2]; exact h.re) (by rw [h3]; exact h.rp)
/-- The row of Sources grows, and is laid into the packet. -/
theorem HdR.grow {w0 w w' : World} {R Br Bd : Nat} {v0 : Value} {L0 : List Int} {s : RdS} {q : Pk} {vs v' : Value} {l : List Int} (h : HdR w0 w R Br Bd v0 L0 s q vs (.slice none 0 0) (.slice none 0 0)) (he : q.ex = []) (hp : q.pl = []) (ho : w'.ownsRow (R + 1) 22 1 v' l.length (l.map (Value.int .u32))) (g : w.grownBy w' vs.ownBlock) :
    HdR w0 (w'.setCell ⟨Bd, 5, none⟩ v') R Br Bd v0 L0 s { q with ss := l } v' (.slice none 0 0) (.slice none 0 0) := by
  have h0 := h.n0; have h1 := h.nR; have h2 := h.nB
  have hge : ∀ z, vs.ownBlock = some z → R + 1 ≤ z := fun z hz => owns_ge h.rs hz
  have aG : Away (fun z => vs.ownBlock = some z) w w' := ⟨g.os, g.tape, g.output, g.size, fun k hk hs => g.block k hk (fun e => hs e.symm)⟩
  have a : Away (fun b => b = Bd) w' (w'.setCell ⟨Bd, 5, none⟩ v') := (Away.refl (fun b => b = Bd) w').set (p := ⟨Bd, 5, none⟩) rfl _
  have hR : ¬ vs.ownBlock = some R := fun e => by have := hge R e; omega
  have hBr : ¬ vs.ownBlock = some Br := fun e => by have := hge Br e; omega
  have hBd : ¬ vs.ownBlock = some Bd := fun e => by have := hge Bd e; omega
  have m : More w0 (w'.setCell ⟨Bd, 5, none⟩ v') := (Away.to_more h.more aG (fun k hk => by have := hge k hk; omega)).st (p := ⟨Bd, 5, none⟩) (by show _ ≤ Bd; omega) _
  refine ⟨h.rd.on ?_ (h.sl.keep m), h.sl, m, a.blk (aG.blk h.br hBr) (by omega), blk_eq (blk_set (aG.blk h.bd hBd) 5 v') rfl, owns_away ho a (fun k hk => by omega), ?_, ?_, h.n0, h.nB, h.nR⟩
  · rw [a.block R (Nat.lt_of_lt_of_le h.rd.lt g.size) (by omega), aG.block R h.rd.lt hR]
  · show World.ownsRow _ _ _ _ _ q.ex.length (q.ex.map _)
    rw [he]; exact World.ownsRow_nil _ _ _ _
  · show World.ownsRow _ _ _ _ _ q.pl.length (q.pl.map _)
    rw [hp]; exact World.ownsRow_nil _ _ _ _
theorem u16_num {s : RdS} (h : Byt s.1) : 0 ≤ num (tkB s.1 2) ∧ num (tkB s.1 2) < 65536 := numU h 2 (by decide)
theorem u32_num {s : RdS} (h : Byt s.1) : 0 ≤ num (tkB s.1 4) ∧ num (tkB s.1 4) < 4294967296 := numU h 4 (by decide)
theorem num_one (x : Int) (h : 0 ≤ x ∧ x ≤ 255) : num [x] = x := by
  have : num (bysA x 1) = x := num_bysA x 1 h.1 (by decide) (by show x < 256; omega)
  rw [bysA_one, Int.emod_eq_of_lt (by omega) (by omega)] at this
  exact this
theorem fH_cons (f g : Int) (r : List Int) (hf : 0 ≤ f ∧ f ≤ 255) (hg : 0 ≤ g ∧ g ≤ 255) : fH (f :: g :: r) = f ∧ gH (f :: g :: r) = g ∧ s2H (f :: g :: r) = (r, 0) := by
  have h1 : tkB (f :: g :: r) 1 = [f] := by unfold tkB; rw [if_pos (by simp only [List.length_cons]; omega)]; rfl
  have h2 : s1H (f :: g :: r) = (g :: r, 0) := by unfold s1H tkS tkL tkE; simp only; rw [if_neg (by simp only [List.length_cons]; omega)]; rfl
  have h3 : tkB (g :: r) 1 = [g] := by unfold tkB; rw [if_pos (by simp only [List.length_cons]; omega)]; rfl
  refine ⟨by unfold fH; rw [h1, num_one f hf], by unfold gH; rw [h2]; simp only; rw [h3, num_one g hg], ?_⟩
  unfold s2H
  rw [h2]
  unfold tkS tkL tkE
  simp only
  rw [if_neg (by simp only [List.length_cons]; omega)]
  rfl
theorem byt2 {f g : Int} {r : List Int} (h : Byt (f :: g :: r)) : (0 ≤ f ∧ f ≤ 255) ∧ (0 ≤ g ∧ g ≤ 255) ∧ Byt r := ⟨h 0, h 1, fun i => h (i + 2)⟩
set_option maxHeartbeats 2000000 in
theorem RReadH_long (v : Value) (b : List Int) (w : World) (sl : SlI .u8 w v b) (hl : (200 : Int) < b.length) :
    Calls Try.prog 31 #[v] w (ReadPost (readHD b) w) := by
  have e : readHD b = (pk0, 4) := by unfold readHD; rw [if_pos hl]
  rw [e]
  obtain ⟨ob, cb, rfl, _⟩ := sl
  clear e
  go_enter Try.func31, Try.ntmps31
  go_wp2
  (refine bodyPost_ret (v := .tuple #[.agg #[.bool false, .int .u8 0, .int .u16 0, .int .u32 0, .int .u32 0, .slice none 0 0, .bool false, .int .u16 0, .slice none 0 0, .slice none 0 0], .int .i64 4]) ?rr1 rfl ?_; (case rr1 => (simp [results, Try.results31, go_sem])))
  exact ⟨.slice none 0 0, .slice none 0 0, .slice none 0 0, rfl, ⟨SlI.nil _ _, SlI.nil _ _, SlI.nil _ _⟩, More.alloc _ _⟩
set_option maxHeartbeats 2000000 in
theorem RReadH_short (v : Value) (b : List Int) (w : World) (sl : SlI .u8 w v b) (hl : ¬ (200 : Int) < b.length) (h12 : (b.length : Int) < 12) :
    Calls Try.prog 31 #[v] w (ReadPost (readHD b) w) := by
  have e : readHD b = (pk0, 3) := by unfold readHD; rw [if_neg hl, if_pos h12]
  rw [e]
  obtain ⟨ob, cb, rfl, _⟩ := sl
  clear e
  go_enter Try.func31, Try.ntmps31
  go_wp2
  (refine bodyPost_ret (v := .tuple #[.agg #[.bool false, .int .u8 0, .int .u16 0, .int .u32 0, .int .u32 0, .slice none 0 0, .bool false, .int .u16 0, .slice none 0 0, .slice none 0 0], .int .i64 3]) ?rr2 rfl ?_; (case rr2 => (simp [results, Try.results31, go_sem])))
  exact ⟨.slice none 0 0, .slice none 0 0, .slice none 0 0, rfl, ⟨SlI.nil _ _, SlI.nil _ _, SlI.nil _ _⟩, More.alloc _ _⟩
/-- The two first bytes lie in old memory. -/
theorem two_first {w : World} {v : Value} {f g : Int} {r : List Int} (sl : SlI .u8 w v (f :: g :: r)) : ∃ bb off c, v = .slice (some ⟨bb, off, none⟩) (r.length + 2) c ∧ bb < w.heap.size ∧ (∀ x, More w x → x.cell? ⟨bb, off, none⟩ = some (.int .u8 f)) ∧ (∀ x, More w x → x.cell? ⟨bb, off + 1, none⟩ = some (.int .u8 g)) := by
  obtain ⟨ob, cb, rfl, hlv, hel, _⟩ := sl
  obtain ⟨bb, off, rfl, hbw, hc⟩ := hel 0 (by simp)
  obtain ⟨bb', off', e, hbw', hc'⟩ := hel 1 (by simp)
  cases e
  exact ⟨bb, off, cb, rfl, hbw, fun x m => by rw [m.cells bb _ hbw]; exact hc, fun x m => by rw [m.cells bb _ hbw]; exact hc'⟩
set_option maxHeartbeats 2000000 in
theorem RReadH_form (v : Value) (f g : Int) (r : List Int) (w : World) (sl : SlI .u8 w v (f :: g :: r)) (hb : Byt (f :: g :: r)) (hl : ¬ (200 : Int) < (f :: g :: r).length) (h12 : ¬ ((f :: g :: r).length : Int) < 12) (hf : f < 128 ∨ 191 < f) :
    Calls Try.prog 31 #[v] w (ReadPost (readHD (f :: g :: r)) w) := by
  have e : readHD (f :: g :: r) = (pk0, 2) := by unfold readHD; rw [if_neg hl, if_neg h12, (fH_cons f g r (byt2 hb).1 (byt2 hb).2.1).1, if_pos hf]
  rw [e]
  obtain ⟨bb, off, c, rfl, hbw, d0, d1⟩ := two_first sl
  have e0 := d0 _ (More.alloc w (.cells #[.bool false, .int .u8 0, .int .u16 0, .int .u32 0, .int .u32 0, .slice none 0 0, .bool false, .int .u16 0, .slice none 0 0, .slice none 0 0] 64))
  have hl' : ¬ (200 : Int) < (r.length : Int) + 2 := by simp only [List.length_cons] at hl; omega
  have h12' : ¬ (r.length : Int) + 2 < 12 := by simp only [List.length_cons] at h12; omega
  clear e d0 d1 hl h12 sl
  by_cases h1 : f < 128
  · clear hf
    go_enter Try.func31, Try.ntmps31
    go_wp2
    (refine bodyPost_ret (v := .tuple #[.agg #[.bool false, .int .u8 0, .int .u16 0, .int .u32 0, .int .u32 0, .slice none 0 0, .bool false, .int .u16 0, .slice none 0 0, .slice none 0 0], .int .i64 2]) ?rr3 rfl ?_; (case rr3 => (simp [results, Try.results31, go_sem])))
    exact ⟨.slice none 0 0, .slice none 0 0, .slice none 0 0, rfl, ⟨SlI.nil _ _, SlI.nil _ _, SlI.nil _ _⟩, More.alloc _ _⟩
  · have h2 : 191 < f := by omega
    clear hf
    go_enter Try.func31, Try.ntmps31
    go_wp2
    (refine bodyPost_ret (v := .tuple #[.agg #[.bool false, .int .u8 0, .int .u16 0, .int .u32 0, .int .u32 0, .slice none 0 0, .bool false, .int .u16 0, .slice none 0 0, .slice none 0 0], .int .i64 2]) ?rr4 rfl ?_; (case rr4 => (simp [results, Try.results31, go_sem])))
    exact ⟨.slice none 0 0, .slice none 0 0, .slice none 0 0, rfl, ⟨SlI.nil _ _, SlI.nil _ _, SlI.nil _ _⟩, More.alloc _ _⟩
end Go.Proofs.Ytlnikmcimmnbmaa
