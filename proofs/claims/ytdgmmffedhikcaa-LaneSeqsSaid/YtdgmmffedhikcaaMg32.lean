/- Merged from my texts HeadC. -/
import Derived.Test.YtdgmmffedhikcaaMg7
import Derived.Test.YtdgmmffedhikcaaMg31
import Derived.IntWalk
/- Packets are read: the state, and unpad. -/
namespace Go.Proofs.Ytdgmmffedhikcaa
set_option linter.unusedSimpArgs false
set_option linter.unusedVariables false
open Go.RowKit
set_option maxRecDepth 100000

theorem and127 : ∀ m : Fin 256, bits .and .u8 (m.val : Int) 127 = (m.val : Int) % 128 ∧ bits .and .u8 (m.val : Int) 15 = (m.val : Int) % 16 := of_decide_eq_true (by kernel_rfl)
theorem and127' {x : Int} (h : 0 ≤ x ∧ x ≤ 255) : bits .and .u8 x 127 = x % 128 ∧ bits .and .u8 x 15 = x % 16 := by
  obtain ⟨m, rfl⟩ := Int.eq_ofNat_of_zero_le h.1
  exact and127 ⟨m, by omega⟩
/-- A reader, the result's place, and the packet that is filled. -/
structure HdS (w0 w : World) (R hi Br Bd : Nat) (s : RdS) (q : Pk) (vs ve vp : Value) : Prop where
  rd : ReaderAt w R s.1 s.2 (fun g => g < hi)
  more : More w0 w
  br : w.heap[Br]? = some (.cells #[.bool false, .int .u8 0, .int .u16 0, .int .u32 0, .int .u32 0, .slice none 0 0, .bool false, .int .u16 0, .slice none 0 0, .slice none 0 0] 39 (0, 0))
  bd : w.heap[Bd]? = some (.cells #[.bool q.mr, .int .u8 q.ty, .int .u16 q.sq, .int .u32 q.st, .int .u32 q.sc, vs, .bool q.has, .int .u16 q.pr, ve, vp] 39 (0, 0))
  rs : w.ownsRow (Bd + 1) 22 1 vs q.ss.length (q.ss.map (Value.int .u32))
  re : w.ownsRow (Bd + 1) 5 1 ve q.ex.length (q.ex.map (Value.int .u8))
  rp : w.ownsRow (Bd + 1) 5 1 vp q.pl.length (q.pl.map (Value.int .u8))
  n0 : w0.heap.size ≤ Br
  nR : Br < R
  n1 : R < hi
  n5 : hi ≤ Bd
theorem HdS.step {w0 w w' : World} {R hi Br Bd : Nat} {s s' : RdS} {q : Pk} {vs ve vp : Value} (h : HdS w0 w R hi Br Bd s q vs ve vp) (r : ReaderAt w' R s'.1 s'.2 (fun g => g < hi)) (a : Away (fun b => b = R) w w') : HdS w0 w' R hi Br Bd s' q vs ve vp := by
  have := h.n0; have := h.nR; have := h.n1; have := h.n5
  exact ⟨r, Away.to_more h.more a (fun k hk => by omega), a.blk h.br (by omega), a.blk h.bd (by omega), owns_away h.rs a (fun k hk => by omega), owns_away h.re a (fun k hk => by omega), owns_away h.rp a (fun k hk => by omega), h.n0, h.nR, h.n1, h.n5⟩
theorem HdS.on {w0 w w' : World} {R hi Br Bd : Nat} {s : RdS} {q : Pk} {vs ve vp : Value} (h : HdS w0 w R hi Br Bd s q vs ve vp) (m : More w w') : HdS w0 w' R hi Br Bd s q vs ve vp :=
  ⟨h.rd.more m, h.more.trans m, blk_more m h.br, blk_more m h.bd, owns_more h.rs m, owns_more h.re m, owns_more h.rp m, h.n0, h.nR, h.n1, h.n5⟩
/-- A cell of the packet is filled. -/
theorem HdS.fill {w0 w : World} {R hi Br Bd : Nat} {s : RdS} {q q' : Pk} {vs ve vp vs' ve' vp' : Value} (h : HdS w0 w R hi Br Bd s q vs ve vp) (i : Nat) (v : Value)
    (hc : (#[.bool q.mr, .int .u8 q.ty, .int .u16 q.sq, .int .u32 q.st, .int .u32 q.sc, vs, .bool q.has, .int .u16 q.pr, ve, vp] : Array Value).setIfInBounds i v = #[.bool q'.mr, .int .u8 q'.ty, .int .u16 q'.sq, .int .u32 q'.st, .int .u32 q'.sc, vs', .bool q'.has, .int .u16 q'.pr, ve', vp'])
    (rs : w.ownsRow (Bd + 1) 22 1 vs' q'.ss.length (q'.ss.map (Value.int .u32))) (re : w.ownsRow (Bd + 1) 5 1 ve' q'.ex.length (q'.ex.map (Value.int .u8))) (rp : w.ownsRow (Bd + 1) 5 1 vp' q'.pl.length (q'.pl.map (Value.int .u8))) :
    HdS w0 (w.setCell ⟨Bd, i, none⟩ v) R hi Br Bd s q' vs' ve' vp' := by
  have := h.n0; have := h.nR; have := h.n1; have := h.n5
  have a : Away (fun b => b = Bd) w (w.setCell ⟨Bd, i, none⟩ v) := (Away.refl (fun b => b = Bd) w).set (p := ⟨Bd, i, none⟩) rfl _
  exact ⟨h.rd.off a (by omega) (fun g hg e => by omega), h.more.st (p := ⟨Bd, i, none⟩) (by show _ ≤ Bd; omega) _, a.blk h.br (by omega), blk_eq (blk_set h.bd i v) hc, owns_away rs a (fun k hk => by omega), owns_away re a (fun k hk => by omega), owns_away rp a (fun k hk => by omega), h.n0, h.nR, h.n1, h.n5⟩
/-- A scalar of the packet is filled. -/
theorem HdS.scal {w0 w : World} {R hi Br Bd : Nat} {s : RdS} {q : Pk} {vs ve vp : Value} (h : HdS w0 w R hi Br Bd s q vs ve vp) (i : Nat) (v : Value) (q' : Pk)
    (hc : (#[.bool q.mr, .int .u8 q.ty, .int .u16 q.sq, .int .u32 q.st, .int .u32 q.sc, vs, .bool q.has, .int .u16 q.pr, ve, vp] : Array Value).setIfInBounds i v = #[.bool q'.mr, .int .u8 q'.ty, .int .u16 q'.sq, .int .u32 q'.st, .int .u32 q'.sc, vs, .bool q'.has, .int .u16 q'.pr, ve, vp]) (h1 : q'.ss = q.ss) (h2 : q'.ex = q.ex) (h3 : q'.pl = q.pl) : HdS w0 (w.setCell ⟨Bd, i, none⟩ v) R hi Br Bd s q' vs ve vp :=
  h.fill i v hc (by rw [h1]; exact h.rs) (by rw [h2]; exact h.re) (by rw [h3]; exact h.rp)
theorem HdS.begin {w w2 : World} {b : List Int} {R : Nat} {Z : Array Value} (hz : Z = #[.bool false, .int .u8 0, .int .u16 0, .int .u32 0, .int .u32 0, .slice none 0 0, .bool false, .int .u16 0, .slice none 0 0, .slice none 0 0]) (hR : (w.alloc (.cells Z 39)).heap.size ≤ R)
    (r : ReaderAt w2 R b 0 (fun g => (w.alloc (.cells Z 39)).heap.size ≤ g ∧ g < w2.heap.size)) (m : More (w.alloc (.cells Z 39)) w2) :
    HdS w (w2.alloc (.cells #[.bool false, .int .u8 0, .int .u16 0, .int .u32 0, .int .u32 0, .slice none 0 0, .bool false, .int .u16 0, .slice none 0 0, .slice none 0 0] 39)) R w2.heap.size w.heap.size w2.heap.size (b, 0) pk0 (.slice none 0 0) (.slice none 0 0) (.slice none 0 0) := by
  subst hz
  have hlt : R < w2.heap.size := by obtain ⟨v, h1, _⟩ := r.blk; exact blk_lt h1
  have hs : (w.alloc (.cells #[.bool false, .int .u8 0, .int .u16 0, .int .u32 0, .int .u32 0, .slice none 0 0, .bool false, .int .u16 0, .slice none 0 0, .slice none 0 0] 39)).heap.size = w.heap.size + 1 := by simp
  exact ⟨(r.mono fun g h => h.2).more (More.alloc _ _), ((More.alloc _ _).trans m).al _, blk_alloc (blk_more m (blk_new w _)) _, blk_new w2 _, World.ownsRow_nil _ _ _ _, World.ownsRow_nil _ _ _ _, World.ownsRow_nil _ _ _ _, Nat.le_refl _, by omega, hlt, Nat.le_refl _⟩
theorem owns_take {w : World} {base e n : Nat} {oa : Option Addr} {m cap : Nat} {l : List Int} {k : IntKind} (h : w.ownsRow base e 1 (.slice oa m cap) l.length (l.map (Value.int k))) (hm : n ≤ l.length) (h0 : 0 < l.length) : w.ownsRow base e 1 (.slice oa n cap) (l.take n).length ((l.take n).map (Value.int k)) := by
  obtain ⟨h1, h2⟩ := h
  have hl : (l.take n).length = n := by rw [List.length_take]; omega
  rcases h2 with ⟨_, h3⟩ | ⟨g, cap', cur, e1, hb, hg, hc, hx, hs, ht⟩
  · omega
  · cases e1
    refine ⟨by simp, Or.inr ⟨g, _, cur, by rw [hl], hb, hg, by rw [hl]; omega, hx, hs, ?_⟩⟩
    rw [hl, Nat.mul_one, List.map_take, ← ht, List.take_take, Nat.mul_one, Nat.min_eq_left hm]
set_option maxHeartbeats 2000000 in
theorem UnpadH_any (oa : Option Addr) (cap : Nat) (b : List Int) (base : Nat) (w : World) (h : w.ownsRow base 5 1 (.slice oa b.length cap) b.length (b.map (Value.int .u8))) (hb : Byt b) (hl : b.length ≤ 1000000) :
    Calls Try.prog 65 #[.slice oa b.length cap] w fun e w' => (∃ v, e = .returned (.tuple #[v, .bool (unpadH b).2]) ∧ w.ownsRow base 5 1 v (unpadH b).1.length ((unpadH b).1.map (Value.int .u8))) ∧ w = w' := by
  have HO := Lib.hid h
  obtain ⟨oa', cap', ev, hlv, hel, hcap, _⟩ := SlI.of_owns h (by omega)
  cases ev
  have hn : (∃ v, (Ending.returned (.tuple #[.slice none 0 0, .bool false])) = .returned (.tuple #[v, .bool false]) ∧ w.ownsRow base 5 1 v ([] : List Int).length (([] : List Int).map (Value.int .u8))) := ⟨_, rfl, World.ownsRow_nil _ _ _ _⟩
  have HN := Lib.hid hn
  clear hn
  by_cases h0 : b.length = 0
  · have e : unpadH b = ([], false) := by unfold unpadH; rw [if_pos (List.length_eq_zero_iff.1 h0)]
    rw [e]
    have h0i : (b.length : Int) = 0 := by omega
    clear hel h e hcap
    go_enter Try.func65, Try.ntmps65
    go_wp2
    go_ret2
    exact ⟨HN.out, rfl⟩
  · obtain ⟨bb, off, rfl, hbw, hc⟩ := hel (b.length - 1) (by omega)
    have hx := hb (b.length - 1)
    have h0i : ((b.length : Int) == 0) = false := by rw [beq_eq_false_iff_ne]; omega
    have hne : ¬ b = [] := fun e => h0 (by rw [e]; rfl)
    have e : unpadH b = if b.getD (b.length - 1) 0 = 0 ∨ (b.length : Int) < b.getD (b.length - 1) 0 then ([], false) else (b.take (b.length - (b.getD (b.length - 1) 0).toNat), true) := by unfold unpadH; rw [if_neg hne]
    have hi : ((b.length : Int) - 1).toNat = b.length - 1 := by omega
    have hlt : (b.length : Int) - 1 < (b.length : Int) := by omega
    have hge : 0 ≤ (b.length : Int) - 1 := by omega
    have hge2 : 1 ≤ (b.length : Int) := by omega
    generalize b.getD (b.length - 1) 0 = x at *
    obtain ⟨x0, x1⟩ := hx
    by_cases hx0 : x = 0
    · rw [if_pos (Or.inl hx0)] at e
      rw [e]
      subst hx0
      clear hel h e hcap h0 hne
      go_enter Try.func65, Try.ntmps65
      go_wp2
      go_ret2
      exact ⟨HN.out, rfl⟩
    · have hx0' : (x == 0) = false := by simpa using hx0
      by_cases hxl : (b.length : Int) < x
      · rw [if_pos (Or.inr hxl)] at e
        rw [e]
        clear hel h e hcap h0 hne hx0
        go_enter Try.func65, Try.ntmps65
        go_wp2
        go_ret2
        exact ⟨HN.out, rfl⟩
      · rw [if_neg (by omega)] at e
        rw [e]
        have s0 : 0 ≤ (b.length : Int) - x := by omega
        have s1 : (b.length : Int) - x ≤ (cap : Int) := by omega
        have s2 : ((b.length : Int) - x).toNat = b.length - x.toNat := by omega
        have HP := Lib.hid (owns_take HO.out (n := b.length - x.toNat) (by omega) (by omega))
        have S2 := Lib.hid s2
        clear hel h e h0 hne hx0 hcap
        go_enter Try.func65, Try.ntmps65
        go_wp2
        go_ret2
        exact ⟨⟨.slice (some ⟨bb, off, none⟩) (b.length - x.toNat) cap, by first | rfl | rw [S2.out], by have := HP.out; rw [List.length_take, List.map_take, Nat.min_eq_left (Nat.sub_le _ _)] at this; exact this⟩, rfl⟩
end Go.Proofs.Ytdgmmffedhikcaa
