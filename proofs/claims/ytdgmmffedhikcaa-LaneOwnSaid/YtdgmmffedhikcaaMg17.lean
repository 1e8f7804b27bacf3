/- Merged from my texts LaneFC, LaneNC, LaneQ. -/
import Derived.Test.YtdgmmffedhikcaaMg16
import Derived.Maps.AppendAt
import Derived.Test.YtdgmmffedhikcaaMg13
import Derived.Test.YtdgmmffedhikcaaMg11
import Derived.Test.YtdgmmffedhikcaaMg7
import Derived.Test.YtdgmmffedhikcaaMg15
/- Contracts of package ring at 99: Drain. (printed by gen_laneF.py) -/
namespace Go.Proofs.Ytdgmmffedhikcaa
set_option linter.unusedSimpArgs false
set_option linter.unusedVariables false
open Go.RowKit
set_option maxRecDepth 100000

theorem cellsC (c : List Value) (h : c.length = 14) : ∃ a0 a1 a2 a3 a4 a5 a6 a7 a8 a9 a10 a11 a12 a13, c = [a0, a1, a2, a3, a4, a5, a6, a7, a8, a9, a10, a11, a12, a13] := by
  match c, h with
  | [a0, a1, a2, a3, a4, a5, a6, a7, a8, a9, a10, a11, a12, a13], _ => exact ⟨a0, a1, a2, a3, a4, a5, a6, a7, a8, a9, a10, a11, a12, a13, rfl⟩
theorem lnOwnsC {S : Nat → Prop} {w w' : World} {base e n m : Nat} {v : Value} {xs : List Value} (h : w.ownsRow base e n v m xs) (a : Away S w w') (hS : ∀ b, base ≤ b → ¬ S b) : w'.ownsRow base e n v m xs := by
  obtain ⟨h1, h2⟩ := h
  refine ⟨h1, ?_⟩
  rcases h2 with h | ⟨b, cap, cur, e1, hb, hg, rest⟩
  · exact Or.inl h
  · exact Or.inr ⟨b, cap, cur, e1, hb, a.blk hg (hS b hb), rest⟩
theorem lnGeC {w : World} {base e size n b : Nat} {v : Value} {xs : List Value} (h : w.ownsRow base e size v n xs) (hb : v.ownBlock = some b) : base ≤ b := by
  rcases h.2 with ⟨rfl, _⟩ | ⟨g, cap, cur, rfl, hg, _⟩
  · cases hb
  · obtain rfl : g = b := by injection hb
    exact hg
theorem lnShapeC {w : World} {base e size n : Nat} {v : Value} {xs : List Value} (h : w.ownsRow base e size v n xs) : ∃ oa cap, v = .slice oa n cap := by
  rcases h.2 with ⟨rfl, h0⟩ | ⟨g, cap, cur, rfl, _⟩
  · exact ⟨none, 0, by rw [h0]⟩
  · exact ⟨_, cap, rfl⟩
set_option maxHeartbeats 8000000 in
theorem drainC (w : World) (R A room first : Nat) (q : List (List Value)) (ci co cd cg : Int) (css : List (List Value)) (h : RgAt 14 151 99 w R A room first q ci co cd cg css) :
    Calls Try.prog 85 #[.pointer (some ⟨R, 0, none⟩)] w fun e w' => ∃ v, e = .returned v ∧ w'.ownsRow w.heap.size 99 14 v q.length q.flatten ∧ (∃ first' cg' css', RgAt 14 151 99 w' R A room first' [] ci co cd cg' css') ∧ Away (RgB R A) w w' := by
  obtain ⟨i0, ii, iz0, iz1, iz2⟩ := info_parts (P := Try.prog) (e := 99) (z := .agg #[.int .i64 0, .int .i64 0, .bool false, .bool false, .int .u8 0, .int .u16 0, .int .u32 0, .int .u32 0, .slice none 0 0, .bool false, .int .u16 0, .slice none 0 0, .slice none 0 0, .bool false]) (size := 14) (bytes := 128) (by kernel_rfl)
  have H0 := Lib.hid h
  have hRw : R < w.heap.size := blk_lt h.ring
  have hAw : A < w.heap.size := blk_lt h.row
  have r2 : w.cell? ⟨R, 2, none⟩ = some (.int .i64 q.length) := blk_cell h.ring 2 rfl
  have hql : (q.length : Int) ≤ 8 := by have := h.fits; have := h.pos.2; omega
  have QA := Lib.hid h.qall
  clear h
  go_enter Try.func85, Try.ntmps85
  go_wp2
  go_loopw [3, 8] (fun u ix wr => ∃ (j f : Nat) (cs : List (List Value)), j ≤ q.length ∧ ix = .int .i64 j ∧ (∃ ou nu cu, u = .slice ou nu cu) ∧ wr.ownsRow w.heap.size 99 14 u j (q.take j).flatten ∧ RgAt 14 151 99 wr R A room f (q.drop j) ci co cd cg cs ∧ Away (RgB R A) w wr) (fun _ ix _ => q.length - (intOf ix).toNat)
  case atStart => exact ⟨0, first, css, by omega, rfl, ⟨_, _, _, rfl⟩, World.ownsRow_nil w _ _ _, H0.out, Away.refl _ _⟩
  case round =>
    obtain ⟨j, f, cs, hj, rfl, ⟨ou, nu, cu, rfl⟩, ho, hr, ha⟩ := hrel
    have HO := Lib.hid ho
    have HR := Lib.hid hr
    have HA := Lib.hid ha
    clear ho hr ha
    by_cases hlt : j < q.length
    · have hd : q.drop j = q[j] :: q.drop (j + 1) := List.drop_eq_getElem_cons hlt
      have htk : q.take (j + 1) = q.take j ++ [q[j]] := by rw [List.take_add_one, List.getElem?_eq_getElem hlt]; rfl
      have hc := QA.out q[j] (List.getElem_mem hlt)
      have hjl : (j : Int) < (q.length : Int) := by omega
      obtain ⟨c, hcd⟩ : ∃ c, Hid (c = q[j]) := ⟨_, Lib.hid rfl⟩
      rw [← hcd.out] at hd htk hc
      have HR1 := Lib.hid (hd ▸ HR.out)
      have HTK := Lib.hid htk
      have hcs : c.toArray.size = 14 := by simpa using hc.1
      clear hd htk HR
      obtain ⟨a0, a1, a2, a3, a4, a5, a6, a7, a8, a9, a10, a11, a12, a13, rfl⟩ := cellsC c hc.1
      go_wp2_with (first | (go_at_call 70; ((with_reducible refine (takeC wr R A room f [a0, a1, a2, a3, a4, a5, a6, a7, a8, a9, a10, a11, a12, a13] (q.drop (j + 1)) ci co cd cg cs HR1.out).mono ?_); rintro e w5 ⟨rfl, h5, a5⟩; have H5 := Lib.hid h5; have A5 := Lib.hid a5; have O5 := Lib.hid (lnOwnsC HO.out a5 (fun b hb e => by rcases e with e | e <;> omega)); have Z5 : Hid (w.heap.size ≤ w5.heap.size) := Lib.hid (Nat.le_trans HA.out.size a5.size); clear h5 a5)) | (at_builtin; refine wpList_append_own_at _ rfl (.tmp 10) (.tmp 13) 149 rfl w.heap.size 99 i0 (.agg #[.int .i64 0, .int .i64 0, .bool false, .bool false, .int .u8 0, .int .u16 0, .int .u32 0, .int .u32 0, .slice none 0 0, .bool false, .int .u16 0, .slice none 0 0, .slice none 0 0, .bool false]) 14 128 Try.underlying149 ii iz0 iz1 iz2 rfl (by decide) _ j (q.take j).flatten rfl (lnOwnsC O5.out (Away.of_more (More.alloc _ _)) (fun b _ e => e)) ⟨w5.heap.size, 0, none⟩ 1 1 [a0, a1, a2, a3, a4, a5, a6, a7, a8, a9, a10, a11, a12, a13] rfl rfl (fun i u hu => by have := lnRange (cs := [a0, a1, a2, a3, a4, a5, a6, a7, a8, a9, a10, a11, a12, a13]) (t := 99) (blk_new w5 (.cells #[a0, a1, a2, a3, a4, a5, a6, a7, a8, a9, a10, a11, a12, a13] 99)) i u hu; rw [Addr.add_mid]; exact this) hc.2 (by unfold maxLen; omega) (by omega) (by have := Z5.out; simp; omega) ?_; intro v6 w6 ho hg hn hx6; have O6 := Lib.hid ho; have A6 : Hid (Away (RgB R A) w w6) := Lib.hid (((HA.out.trans A5.out).alc _).grown hg (fun b hb => lnGeC O5.out hb)); have H6 : Hid (RgAt 14 151 99 w6 R A room ((f + 1) % room) (q.drop (j + 1)) ci co cd cg (cs.set f [.int .i64 0, .int .i64 0, .bool false, .bool false, .int .u8 0, .int .u16 0, .int .u32 0, .int .u32 0, .slice none 0 0, .bool false, .int .u16 0, .slice none 0 0, .slice none 0 0, .bool false])) := Lib.hid ((H5.out.more (More.alloc _ _)).away (Away.of_grown hg) (fun e => by have := lnGeC O5.out e; omega) (fun e => by have := lnGeC O5.out e; omega)); obtain ⟨o6, c6, rfl⟩ := lnShapeC ho; clear ho hg hn hx6))
      go_roundw
      case rel => exact ⟨j + 1, (f + 1) % room, _, by omega, by go_num, ⟨_, _, _, rfl⟩, by rw [HTK.out, List.flatten_append]; simpa using O6.out, H6.out, A6.out⟩
      case measure => simp [intOf]; omega
    · obtain rfl : j = q.length := by omega
      have r7 : wr.cell? ⟨R, 7, none⟩ = some (.int .i64 cg) := blk_cell HR.out.ring 7 rfl
      have fr7 : wr.frozen? ⟨R, 7, none⟩ = false := blk_free HR.out.ring 7
      go_wp2
      go_ret
      have hz : q.drop q.length = [] := by simp
      have ht : q.take q.length = q := by simp
      have HR2 := HR.out
      have HO2 := HO.out
      rw [hz] at HR2
      rw [ht] at HO2
      exact ⟨_, rfl, lnOwnsC HO2 ((Away.refl (fun b => b = R) _).set rfl _) (fun b hb e => by omega), ⟨_, _, _, HR2.drained _⟩, HA.out.set (Or.inl rfl) _⟩
end Go.Proofs.Ytdgmmffedhikcaa
/- Contracts of lane.ids at manifold/lane.chosen. (printed by gen_laneN.py) -/
namespace Go.Proofs.Ytdgmmffedhikcaa
set_option linter.unusedSimpArgs false
set_option linter.unusedVariables false
open Go.RowKit
set_option maxRecDepth 100000

theorem drainC1 (i : Int) (c : List Value) (hc : c.length = 13) (w : World) : Calls Try.prog 86 #[.agg (.int .i64 i :: c).toArray] w fun e w' => e = .returned (.int .i64 i) ∧ More w w' := by
  obtain ⟨a0, a1, a2, a3, a4, a5, a6, a7, a8, a9, a10, a11, a12, a13, h⟩ := cellsC (.int .i64 i :: c) (by simp [hc])
  obtain ⟨rfl, rfl⟩ : a0 = .int .i64 i ∧ c = [a1, a2, a3, a4, a5, a6, a7, a8, a9, a10, a11, a12, a13] := by
    injection h with h1 h2
    exact ⟨h1.symm, h2⟩
  clear h hc
  go_enter Try.func86, Try.ntmps86
  go_wp2
  go_ret
  exact ⟨rfl, (by repeat (first | exact More.refl _ | assumption | refine More.dr ?_ _ | refine More.al ?_ _ | refine More.st ?_ (by simp) _))⟩
set_option maxHeartbeats 4000000 in
theorem idsC (w : World) (v : Value) (q : List (List Value)) (base : Nat) (row : w.ownsRow base 99 14 v q.length q.flatten) (hq : ∀ c ∈ q, ∃ i r, c = .int .i64 i :: r ∧ r.length = 13) (h1 : ∀ c ∈ q, ∀ u ∈ c, u.oneCell' = true) (hl : q.length ≤ 8) :
    Calls Try.prog 84 #[v, .func (.func 86) #[] #[]] w fun e w' => (∃ v', e = .returned v' ∧ w'.ownsRow w.heap.size 3 1 v' (q.map idN).length ((q.map idN).map (Value.int .i64))) ∧ More w w' := by
  obtain ⟨i0, hi, hz0, hz1, hz2⟩ := info_parts (P := Try.prog) (e := 3) (z := .int .i64 0) (size := 1) (bytes := 8) (by kernel_rfl)
  obtain ⟨oa, cap, rfl, hrow⟩ := lnRowAt row (fun c hc => by obtain ⟨i, r, rfl, hr⟩ := hq c hc; simp [hr])
  have HR := Lib.hid hrow
  have HQ := Lib.hid hq
  have HU := Lib.hid h1
  clear row hrow hq h1
  go_enter Try.func84, Try.ntmps84
  go_wp2
  go_loopw [5, 10] (fun u ix wr => ∃ j : Nat, j ≤ q.length ∧ ix = .int .i64 j ∧ (∃ ou nu cu, u = .slice ou nu cu) ∧ wr.ownsRow w.heap.size 3 1 u ((q.take j).map idN).length (((q.take j).map idN).map (Value.int .i64)) ∧ More w wr) (fun _ ix _ => q.length - (intOf ix).toNat)
  case atStart => exact ⟨0, by omega, rfl, ⟨_, _, _, rfl⟩, World.ownsRow_nil w _ _ _, More.refl _⟩
  case round =>
    obtain ⟨j, hj, rfl, ⟨ou, nu, cu, rfl⟩, ho, hm⟩ := hrel
    have HO := Lib.hid ho
    have HM := Lib.hid hm
    clear ho hm
    by_cases hlt : j < q.length
    · have hlti : (j : Int) < (q.length : Int) := by omega
      have htk : (q.take (j + 1)).map idN = (q.take j).map idN ++ [idN q[j]] := by rw [List.take_add_one, List.getElem?_eq_getElem hlt, List.map_append]; rfl
      obtain ⟨b, rfl, hb, hg⟩ := HR.out j hlt
      have hgd : q.getD j [] = q[j] := by rw [List.getD_eq_getElem?_getD, List.getElem?_eq_getElem hlt]; rfl
      have HG := Lib.hid (hg wr HM.out)
      rw [hgd] at HG
      obtain ⟨id, r, hqj, hr⟩ := HQ.out q[j] (List.getElem_mem hlt)
      rw [hqj] at htk HG
      have HTK : Hid ((q.take (j + 1)).map idN = (q.take j).map idN ++ [id]) := Lib.hid htk
      have hu := HU.out q[j] (List.getElem_mem hlt)
      rw [hqj] at hu
      obtain ⟨c, hc⟩ : ∃ c, c = .int .i64 id :: r := ⟨_, rfl⟩
      have hcd := drainC1 id r hr
      rw [← hc] at HG hu hcd
      have hcl : c.length = 14 := by rw [hc]; simp [hr]
      have hcs : c.toArray.size = 14 := by simpa using hcl
      have HD := Lib.hid hcd
      clear hc hcd
      clear hgd hg hqj htk
      have c1 : (((q.take j).map idN).length + [id].length) * 8 ≤ 140737488355328 := (by simp; omega)
      go_wp2_with (first | (refine lnIf (.load 99 (.tmp 12)) rfl ?_; refine wpList_load_mid rfl 99 (.tmp 12) rfl b (j * 14) rfl c _ HG.out Try.underlying99 rfl (by rw [hcl]; kernel_rfl) ?_) | (refine lnIf (.store 99 (.tmp 7) (.tmp 13)) rfl ?_; refine lnStore rfl 99 (.tmp 7) (.tmp 13) rfl wr.heap.size 99 _ c.toArray (blk_new wr _) rfl rfl (by rw [hcs]; kernel_rfl) (by rw [hcs]; rfl) (all_oneCell_toArray hu) ?_; have B1 := Lib.hid (lnBlk (blk_new wr (.cells #[.int .i64 0, .int .i64 0, .bool false, .bool false, .int .u8 0, .int .u16 0, .int .u32 0, .int .u32 0, .slice none 0 0, .bool false, .int .u16 0, .slice none 0 0, .slice none 0 0, .bool false] 99)) c.toArray)) | (refine lnIf (.load 99 (.tmp 7)) rfl ?_; refine lnLoad rfl 99 (.tmp 7) rfl wr.heap.size 99 c.toArray _ B1.out rfl Try.underlying99 rfl (by rw [hcs]; kernel_rfl) ?_) | (refine (HD.out _).mono ?_; rintro e w1 ⟨rfl, m1⟩; have M1 : Hid (More wr w1) := Lib.hid (((lnAway _ _ _).to_more (More.alloc _ _) (fun k e => by rw [e]; exact Nat.le_refl _)).trans m1); clear m1) | (at_builtin; refine wpList_append_sl _ rfl (.tmp 14) (.tmp 18) 86 rfl w.heap.size 3 i0 (.int .i64 0) 8 Try.underlying86 hi hz0 hz1 hz2 rfl _ .i64 ((q.take j).map idN) rfl (lnOwnsI HO.out (S := fun _ => False) ((Away.of_more M1.out).alc _) (fun _ _ h => h)) _ [id] rfl (SlI.lit .i64 w1 [id] 3 _ 1 _ (by simp) rfl rfl (by simp)) c1 (by decide) (Nat.le_trans (HM.out.trans M1.out).size (More.alloc _ _).size) ?_; intro v2 w2 hown2 hg2; have O2 := Lib.hid hown2; have M2 : Hid (More w w2) := Lib.hid ((Away.of_more (S := fun _ => False) ((HM.out.trans M1.out).al _)).grown hg2 (fun k hk => lnGeI HO.out hk) |>.to_more (More.refl _) (fun k e => e.elim)); obtain ⟨o2, c2, rfl⟩ := lnShapeI hown2; clear hown2 hg2))
      go_roundw
      case rel => exact ⟨j + 1, by omega, by go_num, ⟨_, _, _, rfl⟩, by rw [HTK.out]; have O3 := O2.out; have hn : ((q.take j).map idN ++ [id]).length = j + 1 := (by simp; omega); (rw [hn] at O3 ⊢; exact O3), M2.out⟩
      case measure => simp [intOf]; omega
    · obtain rfl : j = q.length := by omega
      have hnl : ¬ (q.length : Int) < (q.length : Int) := by omega
      go_wp2
      go_ret
      have ht : q.take q.length = q := by simp
      have HO2 := HO.out
      rw [ht] at HO2
      exact ⟨⟨_, rfl, by simpa using HO2⟩, HM.out⟩
end Go.Proofs.Ytdgmmffedhikcaa
/- A lane in memory. -/
namespace Go.Proofs.Ytdgmmffedhikcaa
set_option linter.unusedSimpArgs false
set_option linter.unusedVariables false
open Go.RowKit
set_option maxRecDepth 100000

/-- The blocks of a lane. -/
structure LnB where
  L : Nat
  R1 : Nat
  A1 : Nat
  R2 : Nat
  A2 : Nat
  R3 : Nat
  A3 : Nat
def LnB.muts (k : LnB) (b : Nat) : Prop := b = k.L ∨ RgB k.R1 k.A1 b ∨ RgB k.R2 k.A2 b ∨ RgB k.R3 k.A3 b
def lnCells (k : LnB) (vo : Value) (s : LnS) : Array Value :=
  #[vo, .pointer (some ⟨k.R1, 0, none⟩), .pointer (some ⟨k.R2, 0, none⟩), .pointer (some ⟨k.R3, 0, none⟩), .bool s.wanted, .int .i64 s.cur, .int .i64 s.tgt,
    .int .u32 s.rw.src, .int .u16 s.rw.sq, .int .u32 s.rw.st, .bool s.rw.any, .int .u32 s.rw.last, .int .u32 s.rw.shift, .int .i64 s.most, .int .i64 s.row, .bool s.gone]
/-- What may be written while things that are held read as they do. -/
def lnD (N : Nat → Prop) (k : LnB) (b : Nat) : Prop := N b → k.muts b
def lnE (N : Nat → Prop) (k : LnB) (vo : Value) (b : Nat) : Prop := lnD N k b ∨ vo.ownBlock = some b
/-- What a lane writes. -/
def lnM (k : LnB) (vo : Value) (b : Nat) : Prop := k.muts b ∨ vo.ownBlock = some b
/-- A lane's blocks, and those that are new. -/
def Grew (N : Nat → Prop) (w w' : World) (b : Nat) : Prop := N b ∨ (w.heap.size ≤ b ∧ b < w'.heap.size)
structure LnOK (s : LnS) : Prop where
  most : 1 ≤ s.most ∧ s.most ≤ 10
  row : 0 ≤ s.row ∧ s.row ≤ s.most
  lt : s.gone = false → s.row < s.most
  sq : U16 s.rw.sq
  src : U32 s.rw.src
structure LnX (N : Nat → Prop) (w : World) (k : LnB) (vo : Value) (s : LnS) : Prop where
  own : ∀ b, N b → b < w.heap.size
  muts : ∀ b, k.muts b → N b
  dist : (k.L ≠ k.R1 ∧ k.L ≠ k.A1 ∧ k.L ≠ k.R2 ∧ k.L ≠ k.A2 ∧ k.L ≠ k.R3 ∧ k.L ≠ k.A3) ∧ (k.R1 ≠ k.A1 ∧ k.R1 ≠ k.R2 ∧ k.R1 ≠ k.A2 ∧ k.R1 ≠ k.R3 ∧ k.R1 ≠ k.A3) ∧ (k.A1 ≠ k.R2 ∧ k.A1 ≠ k.A2 ∧ k.A1 ≠ k.R3 ∧ k.A1 ≠ k.A3) ∧ (k.R2 ≠ k.A2 ∧ k.R2 ≠ k.R3 ∧ k.R2 ≠ k.A3) ∧ (k.A2 ≠ k.R3 ∧ k.A2 ≠ k.A3) ∧ k.R3 ≠ k.A3
  blk : w.heap[k.L]? = some (.cells (lnCells k vo s) 76 (0, 0))
  r1 : RgR 13 148 41 RIt (lnE N k vo) w k.R1 k.A1 s.room s.A
  r2 : RgR 14 151 99 RCh (lnE N k vo) w k.R2 k.A2 s.room s.B
  r3 : RgR 2 153 78 ROu (lnE N k vo) w k.R3 k.A3 s.room s.C
  out : RowP 2 ROu (lnD N k) w 0 78 vo s.W
  ok : LnOK s
def LnAt (N : Nat → Prop) (w : World) (L : Nat) (s : LnS) : Prop := ∃ k vo, k.L = L ∧ LnX N w k vo s
section
variable {N : Nat → Prop} {w w' : World} {k : LnB} {vo vo' : Value} {s s' : LnS}
theorem LnX.vob (h : LnX N w k vo s) {b : Nat} (hb : vo.ownBlock = some b) : N b ∧ ¬ k.muts b := by
  have := h.out.apart b hb
  unfold lnD at this
  exact Classical.not_imp.1 this
theorem LnX.lt (h : LnX N w k vo s) {b : Nat} (hb : lnM k vo b) : b < w.heap.size := by
  rcases hb with e | e
  · exact h.own b (h.muts b e)
  · exact h.own b (h.vob e).1
theorem LnX.inN (h : LnX N w k vo s) {b : Nat} (hb : lnM k vo b) : N b := by
  rcases hb with e | e
  · exact h.muts b e
  · exact (h.vob e).1
theorem lnM_E {b : Nat} (hb : lnM k vo b) : lnE N k vo b := by
  rcases hb with e | e
  · exact Or.inl fun _ => e
  · exact Or.inr e
theorem mut_E {b : Nat} (hb : k.muts b) : lnE N k vo b := Or.inl fun _ => hb
theorem LnX.away (h : LnX N w k vo s) {S : Nat → Prop} (a : Away S w w') (hS : ∀ b, S b → ¬ N b) : LnX N w' k vo s := by
  have hn : ∀ b, k.muts b → ¬ S b := fun b hb hs => hS b hs (h.muts b hb)
  have hE : ∀ b, S b → lnE N k vo b := fun b hs => Or.inl fun hN => absurd hN (hS b hs)
  refine ⟨fun b hb => Nat.lt_of_lt_of_le (h.own b hb) a.size, h.muts, h.dist, a.blk h.blk (hn _ (Or.inl rfl)), ?_, ?_, ?_, ?_, h.ok⟩
  · exact h.r1.step a (hn _ (Or.inr (Or.inl (Or.inl rfl)))) (hn _ (Or.inr (Or.inl (Or.inr rfl)))) hE (fun b hb => Or.inl hb)
  · exact h.r2.step a (hn _ (Or.inr (Or.inr (Or.inl (Or.inl rfl))))) (hn _ (Or.inr (Or.inr (Or.inl (Or.inr rfl))))) hE (fun b hb => Or.inl hb)
  · exact h.r3.step a (hn _ (Or.inr (Or.inr (Or.inr (Or.inl rfl))))) (hn _ (Or.inr (Or.inr (Or.inr (Or.inr rfl))))) hE (fun b hb => Or.inl hb)
  · exact h.out.step (a.mono fun b hs hN => absurd hN (hS b hs))
theorem LnX.on (h : LnX N w k vo s) (m : More w w') : LnX N w' k vo s := h.away (S := fun _ => False) (Away.of_more m) (fun _ e => e.elim)
theorem LnAt.away {L : Nat} (h : LnAt N w L s) {S : Nat → Prop} (a : Away S w w') (hS : ∀ b, S b → ¬ N b) : LnAt N w' L s := by
  obtain ⟨k, vo, e, x⟩ := h
  exact ⟨k, vo, e, x.away a hS⟩
theorem LnAt.on {L : Nat} (h : LnAt N w L s) (m : More w w') : LnAt N w' L s := by
  obtain ⟨k, vo, e, x⟩ := h
  exact ⟨k, vo, e, x.on m⟩
theorem LnAt.ok {L : Nat} (h : LnAt N w L s) : LnOK s := by
  obtain ⟨k, vo, e, x⟩ := h
  exact x.ok
/-- The sizes of its queues. -/
theorem LnAt.fits {L : Nat} (h : LnAt N w L s) : s.A.length ≤ s.room ∧ s.B.length ≤ s.room ∧ s.C.length ≤ s.room ∧ 1 ≤ s.room ∧ s.room ≤ 8 := by
  obtain ⟨k, vo, e, x⟩ := h
  have h1 := x.r1.fit
  have h2 := x.r2.fit
  have h3 := x.r3.fit
  exact ⟨h1.1, h2.1, h3.1, h1.2.1, h1.2.2.1⟩
/-- Things that were held, behind a call. -/
theorem lnE_sub (h : ∀ b, N b → b < w.heap.size) (hv : ∀ b, vo'.ownBlock = some b → vo.ownBlock = some b ∨ w.heap.size ≤ b) {b : Nat} (hb : lnE (Grew N w w') k vo' b) : lnE N k vo b := by
  rcases hb with e | e
  · exact Or.inl fun hN => e (Or.inl hN)
  · rcases hv b e with e1 | e1
    · exact Or.inr e1
    · exact Or.inl fun hN => by have := h b hN; omega
theorem lnD_sub {b : Nat} (hb : lnD (Grew N w w') k b) : lnD N k b := fun hN => hb (Or.inl hN)
theorem LnX.held {α : Type} {R : Reader α} {c : List Value} {y : α} (h : LnX N w k vo s) (hr : RdOff R (lnE N k vo) w c y) (a : Away (lnM k vo) w w') (hv : ∀ b, vo'.ownBlock = some b → vo.ownBlock = some b ∨ w.heap.size ≤ b) : RdOff R (lnE (Grew N w w') k vo') w' c y :=
  (hr.step (a.mono fun _ => lnM_E)).other fun _ hb => Or.inl (lnE_sub h.own hv hb)
theorem LnX.rows (h : LnX N w k vo s) (a : Away k.muts w w') : RowP 2 ROu (lnD (Grew N w w') k) w' 0 78 vo s.W := by
  have h0 := h.out.step (a.mono fun b hb _ => hb)
  obtain ⟨⟨xs, o, r⟩, ap⟩ := h0
  refine ⟨⟨xs, o, fun i hi => (r i hi).other fun b hb => Or.inl (lnE_sub h.own (fun _ e => Or.inl e) hb)⟩, fun b hb hD => ap b hb (lnD_sub hD)⟩
theorem LnX.make (h : LnX N w k vo s) (sz : w.heap.size ≤ w'.heap.size)
    (blk : w'.heap[k.L]? = some (.cells (lnCells k vo' s') 76 (0, 0)))
    (r1 : RgR 13 148 41 RIt (lnE (Grew N w w') k vo') w' k.R1 k.A1 s'.room s'.A)
    (r2 : RgR 14 151 99 RCh (lnE (Grew N w w') k vo') w' k.R2 k.A2 s'.room s'.B)
    (r3 : RgR 2 153 78 ROu (lnE (Grew N w w') k vo') w' k.R3 k.A3 s'.room s'.C)
    (out : RowP 2 ROu (lnD (Grew N w w') k) w' 0 78 vo' s'.W) (ok : LnOK s') : LnX (Grew N w w') w' k vo' s' :=
  ⟨fun b hb => by
    rcases hb with e | e
    · exact Nat.lt_of_lt_of_le (h.own b e) sz
    · exact e.2, fun b hb => Or.inl (h.muts b hb), h.dist, blk, r1, r2, r3, out, ok⟩
/-- A call that only makes new blocks. -/
theorem LnX.grow (h : LnX N w k vo s) (m : More w w') : LnX (Grew N w w') w' k vo s := by
  have hx := h.on m
  have a : Away (fun _ => False) w w' := Away.of_more m
  have hs : ∀ b, lnE (Grew N w w') k vo b → lnE N k vo b ∨ w'.heap.size ≤ b := fun b hb => Or.inl (lnE_sub h.own (fun _ e => Or.inl e) hb)
  exact h.make m.size hx.blk (h.r1.step a (fun e => e) (fun e => e) (fun _ e => e.elim) hs) (h.r2.step a (fun e => e) (fun e => e) (fun _ e => e.elim) hs) (h.r3.step a (fun e => e) (fun e => e) (fun _ e => e.elim) hs) (h.rows (Away.of_more m)) h.ok
theorem LnAt.grow {L : Nat} (h : LnAt N w L s) (m : More w w') : LnAt (Grew N w w') w' L s := by
  obtain ⟨k, vo, e, x⟩ := h
  exact ⟨k, vo, e, x.grow m⟩
end
end Go.Proofs.Ytdgmmffedhikcaa
