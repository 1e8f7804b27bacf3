/- Merged from my texts ProbeP, ByteF, HeadC. -/
import Derived.Test.YtdgmmffedhikcaaMg5
import Derived.Test.YtdgmmffedhikcaaMg6
import Derived.Test.YtdgmmffedhikcaaMg7
import Derived.IntWalk
/- Descriptions: the plain law. -/
namespace Go.Proofs.Ytdgmmffedhikcaa
set_option linter.unusedSimpArgs false
set_option linter.unusedVariables false
open Go.RowKit
set_option maxRecDepth 100000

/-- A description. -/
structure Ds where
  lo : Bool
  st : Bool
  pt : Int
  pic : Int
  wd : Bool
  bs : Int
  tr : Int
  sy : Bool
  ky : Int
def ds0 : Ds := ⟨false, false, 0, 0, false, 0, 0, false, 0⟩
def rightD (d : Ds) : Bool :=
  decide (d.pt ≤ 7) && (decide (-1 ≤ d.pic) && decide (d.pic ≤ if d.wd then 32767 else 127)) && (decide (-1 ≤ d.bs) && decide (d.bs ≤ 255)) && (decide (-1 ≤ d.tr) && decide (d.tr ≤ 3)) && (decide (-1 ≤ d.ky) && decide (d.ky ≤ 31)) && !(d.wd && decide (d.pic = -1)) && !(d.sy && decide (d.tr = -1))
theorem rightD_iff (d : Ds) : rightD d = true ↔ d.pt ≤ 7 ∧ (-1 ≤ d.pic ∧ d.pic ≤ if d.wd then 32767 else 127) ∧ (-1 ≤ d.bs ∧ d.bs ≤ 255) ∧ (-1 ≤ d.tr ∧ d.tr ≤ 3) ∧ (-1 ≤ d.ky ∧ d.ky ≤ 31) ∧ (d.wd = true → d.pic ≠ -1) ∧ (d.sy = true → d.tr ≠ -1) := by
  unfold rightD
  cases d.wd <;> cases d.sy <;> simp [and_assoc]
def b1 (b : Bool) (n : Int) : Int := if b then n else 0
/-- Which numbers are told. -/
def toldD (d : Ds) : Int := b1 (decide (d.pic ≠ -1)) 128 + b1 (decide (d.bs ≠ -1)) 64 + b1 (decide (d.tr ≠ -1)) 32 + b1 (decide (d.ky ≠ -1)) 16
def oneD (d : Ds) : Int := d.pt + b1 (decide (toldD d ≠ 0)) 128 + b1 d.lo 32 + b1 d.st 16
def lastD (d : Ds) : Int := 64 * max 0 d.tr + max 0 d.ky + b1 d.sy 32
def dsB (d : Ds) : List Int :=
  bysA (oneD d) 1 ++ (if toldD d ≠ 0 then bysA (toldD d) 1 else []) ++ (if d.wd then bysA (32768 + d.pic) 2 else if d.pic ≠ -1 then bysA d.pic 1 else []) ++ (if d.bs ≠ -1 then bysA d.bs 1 else []) ++ (if d.tr ≠ -1 ∨ d.ky ≠ -1 then bysA (lastD d) 1 else [])
def writeD (d : Ds) : List Int × Int := if rightD d then (dsB d, 0) else ([], 1)

def nB (s : RdS) : Int := num (tkB s.1 1)
def bit (n k : Int) : Bool := decide (n / k % 2 = 1)
/-- Which numbers are told; behind the first two bytes. -/
def headD (s : RdS) : Int × Int × RdS := if bit (nB s) 128 then (nB s, nB (tkS s 1), tkS (tkS s 1) 1) else (nB s, 0, tkS s 1)
def picD (t : Int) (s : RdS) : (Int × Bool) × RdS := if bit t 128 then (if nB s < 128 then ((nB s, false), tkS s 1) else (((nB s - 128) * 256 + nB (tkS s 1), true), tkS (tkS s 1) 1)) else ((-1, false), s)
def basD (t : Int) (s : RdS) : Int × RdS := if bit t 64 then (nB s, tkS s 1) else (-1, s)
def bothD (t : Int) (s : RdS) : Int × RdS := if bit t 32 || bit t 16 then (nB s, tkS s 1) else (0, s)
def mkD (f t : Int) (p : Int × Bool) (b q : Int) : Ds := ⟨bit f 32, bit f 16, f % 8, p.1, p.2, b, if bit t 32 then q / 64 else -1, bit t 32 && bit q 32, if bit t 16 then q % 32 else -1⟩
def restD (f t : Int) (s : RdS) : Ds × RdS :=
  (mkD f t (picD t s).1 (basD t (picD t s).2).1 (bothD t (basD t (picD t s).2).2).1, (bothD t (basD t (picD t s).2).2).2)
def endD (n : Int) (x : Ds × RdS) : Ds × Int × Int := if x.2.2 = 3 then (ds0, 0, 3) else (x.1, n - x.2.1.length, 0)
def readD (b : List Int) : Ds × Int × Int := endD b.length (restD (headD (b, 0)).1 (headD (b, 0)).2.1 (headD (b, 0)).2.2)
/-- Does a payload begin a keyframe? -/
def beginsD (b : List Int) : Bool :=
  decide ((readD b).2.2 = 0) && (readD b).1.st && decide ((readD b).1.pt = 0) && decide ((readD b).2.1 < b.length) && decide (b.getD (readD b).2.1.toNat 0 % 2 = 0)
end Go.Proofs.Ytdgmmffedhikcaa
/- Bytes: bits that are asked, and laid. -/
namespace Go.Proofs.Ytdgmmffedhikcaa
set_option linter.unusedSimpArgs false
set_option linter.unusedVariables false
open Go.RowKit
set_option maxRecDepth 100000

theorem orB : ∀ m : Fin 256, ((m.val : Int) / 128 % 2 = 0 → bits .or .u8 (m.val : Int) 128 = (m.val : Int) + 128) ∧ ((m.val : Int) / 64 % 2 = 0 → bits .or .u8 (m.val : Int) 64 = (m.val : Int) + 64) ∧ ((m.val : Int) / 32 % 2 = 0 → bits .or .u8 (m.val : Int) 32 = (m.val : Int) + 32) ∧ ((m.val : Int) / 16 % 2 = 0 → bits .or .u8 (m.val : Int) 16 = (m.val : Int) + 16) := of_decide_eq_true (by kernel_rfl)
theorem orB' {x : Int} (h : 0 ≤ x ∧ x ≤ 255) : (x / 128 % 2 = 0 → bits .or .u8 x 128 = x + 128) ∧ (x / 64 % 2 = 0 → bits .or .u8 x 64 = x + 64) ∧ (x / 32 % 2 = 0 → bits .or .u8 x 32 = x + 32) ∧ (x / 16 % 2 = 0 → bits .or .u8 x 16 = x + 16) := by
  obtain ⟨m, rfl⟩ := Int.eq_ofNat_of_zero_le h.1
  exact orB ⟨m, by omega⟩
theorem andB : ∀ m : Fin 256, (bits .and .u8 (m.val : Int) 128 = if bit (m.val : Int) 128 then 128 else 0) ∧ (bits .and .u8 (m.val : Int) 64 = if bit (m.val : Int) 64 then 64 else 0) ∧ (bits .and .u8 (m.val : Int) 32 = if bit (m.val : Int) 32 then 32 else 0) ∧ (bits .and .u8 (m.val : Int) 16 = if bit (m.val : Int) 16 then 16 else 0) ∧ bits .and .u8 (m.val : Int) 7 = (m.val : Int) % 8 ∧ ((bits .and .u8 (m.val : Int) 48 != 0) = (bit (m.val : Int) 32 || bit (m.val : Int) 16)) := of_decide_eq_true (by kernel_rfl)
theorem andB' {x : Int} (h : 0 ≤ x ∧ x ≤ 255) : (bits .and .u8 x 128 = if bit x 128 then 128 else 0) ∧ (bits .and .u8 x 64 = if bit x 64 then 64 else 0) ∧ (bits .and .u8 x 32 = if bit x 32 then 32 else 0) ∧ (bits .and .u8 x 16 = if bit x 16 then 16 else 0) ∧ bits .and .u8 x 7 = x % 8 ∧ ((bits .and .u8 x 48 != 0) = (bit x 32 || bit x 16)) := by
  obtain ⟨m, rfl⟩ := Int.eq_ofNat_of_zero_le h.1
  exact andB ⟨m, by omega⟩
theorem andB2 : ∀ m : Fin 256, ((bits .and .u8 (m.val : Int) 128 != 0) = bit (m.val : Int) 128) ∧ ((bits .and .u8 (m.val : Int) 64 != 0) = bit (m.val : Int) 64) ∧ ((bits .and .u8 (m.val : Int) 32 != 0) = bit (m.val : Int) 32) ∧ ((bits .and .u8 (m.val : Int) 16 != 0) = bit (m.val : Int) 16) := of_decide_eq_true (by kernel_rfl)
theorem andB2' {x : Int} (h : 0 ≤ x ∧ x ≤ 255) : ((bits .and .u8 x 128 != 0) = bit x 128) ∧ ((bits .and .u8 x 64 != 0) = bit x 64) ∧ ((bits .and .u8 x 32 != 0) = bit x 32) ∧ ((bits .and .u8 x 16 != 0) = bit x 16) := by
  obtain ⟨m, rfl⟩ := Int.eq_ofNat_of_zero_le h.1
  exact andB2 ⟨m, by omega⟩
end Go.Proofs.Ytdgmmffedhikcaa
/- Packets are read: the state, and unpad. -/
namespace Go.Proofs.Ytdgmmffedhikcaa
set_option linter.unusedSimpArgs false
set_option linter.unusedVariables false
open Go.RowKit
set_option maxRecDepth 100000

theorem and127 : ∀ m : Fin 256, bits .and .u8 (m.val : Int) 127 = (m.val : Int) % 128 ∧ bits .and .u8 (m.val : Int) 15 = (m.val : Int) % 16 := of_decide_eq_true (by kernel_rfl)
theorem and127' {x : Int} (h : 0 ≤ x ∧ x ≤ 255) : bits .and .u8 x 127 = x % 128 ∧ bits .and .u8 x 15 = x % 16 := by
  obtain ⟨m, rfl⟩ := Int.eq_ofNat_of_zero_le h.1
  exact and127 ⟨m, by omega⟩
/-- A reader, the result's place, and the packet that is filled. -/
structure HdS (w0 w : World) (R hi Br Bd : Nat) (s : RdS) (q : Pk) (vs ve vp : Value) : Prop where
  rd : ReaderAt w R s.1 s.2 (fun g => g < hi)
  more : More w0 w
  br : w.heap[Br]? = some (.cells #[.bool false, .int .u8 0, .int .u16 0, .int .u32 0, .int .u32 0, .slice none 0 0, .bool false, .int .u16 0, .slice none 0 0, .slice none 0 0] 39 (0, 0))
  bd : w.heap[Bd]? = some (.cells #[.bool q.mr, .int .u8 q.ty, .int .u16 q.sq, .int .u32 q.st, .int .u32 q.sc, vs, .bool q.has, .int .u16 q.pr, ve, vp] 39 (0, 0))
  rs : w.ownsRow (Bd + 1) 22 1 vs q.ss.length (q.ss.map (Value.int .u32))
  re : w.ownsRow (Bd + 1) 5 1 ve q.ex.length (q.ex.map (Value.int .u8))
  rp : w.ownsRow (Bd + 1) 5 1 vp q.pl.length (q.pl.map (Value.int .u8))
  n0 : w0.heap.size ≤ Br
  nR : Br < R
  n1 : R < hi
  n5 : hi ≤ Bd
theorem HdS.step {w0 w w' : World} {R hi Br Bd : Nat} {s s' : RdS} {q : Pk} {vs ve vp : Value} (h : HdS w0 w R hi Br Bd s q vs ve vp) (r : ReaderAt w' R s'.1 s'.2 (fun g => g < hi)) (a : Away (fun b => b = R) w w') : HdS w0 w' R hi Br Bd s' q vs ve vp := by
  have := h.n0; have := h.nR; have := h.n1; have := h.n5
  exact ⟨r, Away.to_more h.more a (fun k hk => by omega), a.blk h.br (by omega), a.blk h.bd (by omega), owns_away h.rs a (fun k hk => by omega), owns_away h.re a (fun k hk => by omega), owns_away h.rp a (fun k hk => by omega), h.n0, h.nR, h.n1, h.n5⟩
theorem HdS.on {w0 w w' : World} {R hi Br Bd : Nat} {s : RdS} {q : Pk} {vs ve vp : Value} (h : HdS w0 w R hi Br Bd s q vs ve vp) (m : More w w') : HdS w0 w' R hi Br Bd s q vs ve vp :=
  ⟨h.rd.more m, h.more.trans m, blk_more m h.br, blk_more m h.bd, owns_more h.rs m, owns_more h.re m, owns_more h.rp m, h.n0, h.nR, h.n1, h.n5⟩
/-- A cell of the packet is filled. -/
theorem HdS.fill {w0 w : World} {R hi Br Bd : Nat} {s : RdS} {q q' : Pk} {vs ve vp vs' ve' vp' : Value} (h : HdS w0 w R hi Br Bd s q vs ve vp) (i : Nat) (v : Value)
    (hc : (#[.bool q.mr, .int .u8 q.ty, .int .u16 q.sq, .int .u32 q.st, .int .u32 q.sc, vs, .bool q.has, .int .u16 q.pr, ve, vp] : Array Value).setIfInBounds i v = #[.bool q'.mr, .int .u8 q'.ty, .int .u16 q'.sq, .int .u32 q'.st, .int .u32 q'.sc, vs', .bool q'.has, .int .u16 q'.pr, ve', vp'])
    (rs : w.ownsRow (Bd + 1) 22 1 vs' q'.ss.length (q'.ss.map (Value.int .u32))) (re : w.ownsRow (Bd + 1) 5 1 ve' q'.ex.length (q'.ex.map (Value.int .u8))) (rp : w.ownsRow (Bd + 1) 5 1 vp' q'.pl.length (q'.pl.map (Value.int .u8))) :
    HdS w0 (w.setCell ⟨Bd, i, none⟩ v) R hi Br Bd s q' vs' ve' vp' := by
  have := h.n0; have := h.nR; have := h.n1; have := h.n5
  have a : Away (fun b => b = Bd) w (w.setCell ⟨Bd, i, none⟩ v) := (Away.refl (fun b => b = Bd) w).set (p := ⟨Bd, i, none⟩) rfl _
  exact ⟨h.rd.off a (by omega) (fun g hg e => by omega), h.more.st (p := ⟨Bd, i, none⟩) (by show _ ≤ Bd; omega) _, a.blk h.br (by omega), blk_eq (blk_set h.bd i v) hc, owns_away rs a (fun k hk => by omega), owns_away re a (fun k hk => by omega), owns_away rp a (fun k hk => by omega), h.n0, h.nR, h.n1, h.n5⟩
/-- A scalar of the packet is filled. -/
theorem HdS.scal {w0 w : World} {R hi Br Bd : Nat} {s : RdS} {q : Pk} {vs ve vp : Value} (h : HdS w0 w R hi Br Bd s q vs ve vp) (i : Nat) (v : Value) (q' : Pk)
    (hc : (#[.bool q.mr, .int .u8 q.ty, .int .u16 q.sq, .int .u32 q.st, .int .u32 q.sc, vs, .bool q.has, .int .u16 q.pr, ve, vp] : Array Value).setIfInBounds i v = #[.bool q'.mr, .int .u8 q'.ty, .int .u16 q'.sq, .int .u32 q'.st, .int .u32 q'.sc, vs, .bool q'.has, .int .u16 q'.pr, ve, vp]) (h1 : q'.ss = q.ss) (h2 : q'.ex = q.ex) (h3 : q'.pl = q.pl) : HdS w0 (w.setCell ⟨Bd, i, none⟩ v) R hi Br Bd s q' vs ve vp :=
  h.fill i v hc (by rw [h1]; exact h.rs) (by rw [h2]; exact h.re) (by rw [h3]; exact h.rp)
theorem HdS.begin {w w2 : World} {b : List Int} {R : Nat} {Z : Array Value} (hz : Z = #[.bool false, .int .u8 0, .int .u16 0, .int .u32 0, .int .u32 0, .slice none 0 0, .bool false, .int .u16 0, .slice none 0 0, .slice none 0 0]) (hR : (w.alloc (.cells Z 39)).heap.size ≤ R)
    (r : ReaderAt w2 R b 0 (fun g => (w.alloc (.cells Z 39)).heap.size ≤ g ∧ g < w2.heap.size)) (m : More (w.alloc (.cells Z 39)) w2) :
    HdS w (w2.alloc (.cells #[.bool false, .int .u8 0, .int .u16 0, .int .u32 0, .int .u32 0, .slice none 0 0, .bool false, .int .u16 0, .slice none 0 0, .slice none 0 0] 39)) R w2.heap.size w.heap.size w2.heap.size (b, 0) pk0 (.slice none 0 0) (.slice none 0 0) (.slice none 0 0) := by
  subst hz
  have hlt : R < w2.heap.size := by obtain ⟨v, h1, _⟩ := r.blk; exact blk_lt h1
  have hs : (w.alloc (.cells #[.bool false, .int .u8 0, .int .u16 0, .int .u32 0, .int .u32 0, .slice none 0 0, .bool false, .int .u16 0, .slice none 0 0, .slice none 0 0] 39)).heap.size = w.heap.size + 1 := by simp
  exact ⟨(r.mono fun g h => h.2).more (More.alloc _ _), ((More.alloc _ _).trans m).al _, blk_alloc (blk_more m (blk_new w _)) _, blk_new w2 _, World.ownsRow_nil _ _ _ _, World.ownsRow_nil _ _ _ _, World.ownsRow_nil _ _ _ _, Nat.le_refl _, by omega, hlt, Nat.le_refl _⟩
theorem owns_take {w : World} {base e n : Nat} {oa : Option Addr} {m cap : Nat} {l : List Int} {k : IntKind} (h : w.ownsRow base e 1 (.slice oa m cap) l.length (l.map (Value.int k))) (hm : n ≤ l.length) (h0 : 0 < l.length) : w.ownsRow base e 1 (.slice oa n cap) (l.take n).length ((l.take n).map (Value.int k)) := by
  obtain ⟨h1, h2⟩ := h
  have hl : (l.take n).length = n := by rw [List.length_take]; omega
  rcases h2 with ⟨_, h3⟩ | ⟨g, cap', cur, e1, hb, hg, hc, hx, hs, ht⟩
  · omega
  · cases e1
    refine ⟨by simp, Or.inr ⟨g, _, cur, by rw [hl], hb, hg, by rw [hl]; omega, hx, hs, ?_⟩⟩
    rw [hl, Nat.mul_one, List.map_take, ← ht, List.take_take, Nat.mul_one, Nat.min_eq_left hm]
set_option maxHeartbeats 2000000 in
theorem UnpadH_any (oa : Option Addr) (cap : Nat) (b : List Int) (base : Nat) (w : World) (h : w.ownsRow base 5 1 (.slice oa b.length cap) b.length (b.map (Value.int .u8))) (hb : Byt b) (hl : b.length ≤ 1000000) :
    Calls Try.prog 65 #[.slice oa b.length cap] w fun e w' => (∃ v, e = .returned (.tuple #[v, .bool (unpadH b).2]) ∧ w.ownsRow base 5 1 v (unpadH b).1.length ((unpadH b).1.map (Value.int .u8))) ∧ w = w' := by
  have HO := Lib.hid h
  obtain ⟨oa', cap', ev, hlv, hel, hcap, _⟩ := SlI.of_owns h (by omega)
  cases ev
  have hn : (∃ v, (Ending.returned (.tuple #[.slice none 0 0, .bool false])) = .returned (.tuple #[v, .bool false]) ∧ w.ownsRow base 5 1 v ([] : List Int).length (([] : List Int).map (Value.int .u8))) := ⟨_, rfl, World.ownsRow_nil _ _ _ _⟩
  have HN := Lib.hid hn
  clear hn
  by_cases h0 : b.length = 0
  · have e : unpadH b = ([], false) := by unfold unpadH; rw [if_pos (List.length_eq_zero_iff.1 h0)]
    rw [e]
    have h0i : (b.length : Int) = 0 := by omega
    clear hel h e hcap
    go_enter Try.func65, Try.ntmps65
    go_wp2
    go_ret2
    exact ⟨HN.out, rfl⟩
  · obtain ⟨bb, off, rfl, hbw, hc⟩ := hel (b.length - 1) (by omega)
    have hx := hb (b.length - 1)
    have h0i : ((b.length : Int) == 0) = false := by rw [beq_eq_false_iff_ne]; omega
    have hne : ¬ b = [] := fun e => h0 (by rw [e]; rfl)
    have e : unpadH b = if b.getD (b.length - 1) 0 = 0 ∨ (b.length : Int) < b.getD (b.length - 1) 0 then ([], false) else (b.take (b.length - (b.getD (b.length - 1) 0).toNat), true) := by unfold unpadH; rw [if_neg hne]
    have hi : ((b.length : Int) - 1).toNat = b.length - 1 := by omega
    have hlt : (b.length : Int) - 1 < (b.length : Int) := by omega
    have hge : 0 ≤ (b.length : Int) - 1 := by omega
    have hge2 : 1 ≤ (b.length : Int) := by omega
    generalize b.getD (b.length - 1) 0 = x at *
    obtain ⟨x0, x1⟩ := hx
    by_cases hx0 : x = 0
    · rw [if_pos (Or.inl hx0)] at e
      rw [e]
      subst hx0
      clear hel h e hcap h0 hne
      go_enter Try.func65, Try.ntmps65
      go_wp2
      go_ret2
      exact ⟨HN.out, rfl⟩
    · have hx0' : (x == 0) = false := by simpa using hx0
      by_cases hxl : (b.length : Int) < x
      · rw [if_pos (Or.inr hxl)] at e
        rw [e]
        clear hel h e hcap h0 hne hx0
        go_enter Try.func65, Try.ntmps65
        go_wp2
        go_ret2
        exact ⟨HN.out, rfl⟩
      · rw [if_neg (by omega)] at e
        rw [e]
        have s0 : 0 ≤ (b.length : Int) - x := by omega
        have s1 : (b.length : Int) - x ≤ (cap : Int) := by omega
        have s2 : ((b.length : Int) - x).toNat = b.length - x.toNat := by omega
        have HP := Lib.hid (owns_take HO.out (n := b.length - x.toNat) (by omega) (by omega))
        have S2 := Lib.hid s2
        clear hel h e h0 hne hx0 hcap
        go_enter Try.func65, Try.ntmps65
        go_wp2
        go_ret2
        exact ⟨⟨.slice (some ⟨bb, off, none⟩) (b.length - x.toNat) cap, by first | rfl | rw [S2.out], by have := HP.out; rw [List.length_take, List.map_take, Nat.min_eq_left (Nat.sub_le _ _)] at this; exact this⟩, rfl⟩
end Go.Proofs.Ytdgmmffedhikcaa
