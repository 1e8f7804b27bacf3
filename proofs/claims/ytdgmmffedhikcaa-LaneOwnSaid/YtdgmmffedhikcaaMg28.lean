/- Merged from my texts LaneAc, LaneOw. -/
import Derived.Test.YtdgmmffedhikcaaMg27
import Derived.Test.YtdgmmffedhikcaaMg1
/- The laws of lane: what is too much; an act. (printed by gen_laneAc.py) -/
namespace Go.Proofs.Ytdgmmffedhikcaa
set_option linter.unusedSimpArgs false
set_option linter.unusedVariables false
open Go.RowKit
set_option maxRecDepth 100000

def bigA (x : ActS) : Bool := decide (40 < x.x.pk.ss.length) || decide (1000 < x.x.pk.ex.length) || decide (1000 < x.x.pk.pl.length)
def lrgA (l : List ActS) : Bool := decide (120 < l.length) || l.any bigA
theorem bigA_no {x : ActS} (h : bigA x = false) : x.x.pk.ss.length ≤ 40 ∧ x.x.pk.ex.length ≤ 1000 ∧ x.x.pk.pl.length ≤ 1000 := by
  unfold bigA at h
  simp at h
  omega
theorem lrgA_no {l : List ActS} (h : lrgA l = false) : l.length ≤ 120 ∧ ∀ x ∈ l, PkSm x.x.pk := by
  unfold lrgA at h
  rw [Bool.or_eq_false_iff] at h
  refine ⟨by simpa using h.1, fun x hx => ?_⟩
  have := bigA_no (by simpa using List.any_eq_false.1 h.2 x hx)
  exact ⟨by omega, by omega, by omega⟩
theorem lrgA_no_of {l : List ActS} (h : l.length ≤ 120) (k : ∀ i, i < l.length → bigA (l.getD i act0) = false) : lrgA l = false := by
  unfold lrgA
  rw [Bool.or_eq_false_iff]
  refine ⟨by simpa using h, List.any_eq_false.2 fun t ht => ?_⟩
  obtain ⟨i, hi, rfl⟩ := List.mem_iff_getElem.1 ht
  have := k i hi
  simp [hi] at this
  simp [this]
theorem lrgA_yes {l : List ActS} {i : Nat} (hi : i < l.length) (h : bigA (l.getD i act0) = true) : lrgA l = true := by
  unfold lrgA
  rw [Bool.or_eq_true]
  exact Or.inr (List.any_eq_true.2 ⟨l.getD i act0, by simp [hi], h⟩)
theorem ln_cells6 {w : World} {b t : Nat} {a0 a1 a2 a3 a4 a5 : Value} {cs : List Value} (h : w.heap[b]? = some (.cells (a0 :: a1 :: a2 :: a3 :: a4 :: a5 :: cs).toArray t (0, 0))) : w.rangeAt b 6 cs := fun j v hv => by
  rw [cell_of_row w b (6 + j) _ t (0, 0) h, List.getElem?_toArray, show 6 + j = j + 1 + 1 + 1 + 1 + 1 + 1 by omega]
  simpa using hv
set_option maxHeartbeats 2000000 in
theorem large20 (v : Value) (l : List ActS) (w : World) (sl : SlP 16 RAct w v l) :
    Calls Try.prog 11 #[v] w fun e w' => e = .returned (.bool (lrgA l)) ∧ More w w' := by
  obtain ⟨oa, cap, rfl, hl63, hel, _⟩ := acts sl
  clear sl
  by_cases hlen : (l.length : Int) ≤ 120
  · go_enter Try.func11, Try.ntmps11
    go_wp2
    go_loopw [11] (fun i wr => ∃ j : Nat, j ≤ l.length ∧ i = .int .i64 j ∧ (∀ i, i < j → bigA (l.getD i act0) = false) ∧ More w wr) (fun i _ => l.length - (intOf i).toNat)
    case atStart => exact ⟨0, by omega, rfl, fun i hi => by omega, More.refl _⟩
    case round =>
      obtain ⟨j, hj, rfl, hall, hmr⟩ := hrel
      by_cases hlt : j < l.length
      · obtain ⟨b, off, os, ks, oe, ke, ol, kl, rfl, hb, ht, hs⟩ := hel j hlt
        have HRG := Lib.hid (ht wr hmr)
        have hjl : (j : Int) < (l.length : Int) := by omega
        have hbw : b < wr.heap.size := Nat.lt_of_lt_of_le hb hmr.size
        have HALL := Lib.hid hall
        have HMR := Lib.hid hmr
        obtain ⟨a, hx⟩ : ∃ x, l.getD j act0 = x := ⟨_, rfl⟩
        have HXE := Lib.hid hx
        rw [hx] at HRG
        clear hall ht hs hmr hx
        obtain ⟨d, g, c, x⟩ := a
        by_cases h1 : (40 : Int) < (x.pk.ss.length : Int)
        · skip
          have hy := Lib.hid (lrgA_yes hlt (by unfold bigA; rw [HXE.out]; simp; omega))
          clear hel
          go_wp2_with (first | (refine lnIf (.load 43 (.tmp 13)) rfl ?_; refine wpList_load_mid rfl 43 (.tmp 13) rfl b (off + j * 16) rfl [.int .i64 d, .int .i64 g, .bool c, .int .i64 x.id, .int .i64 x.layer, .bool x.key, .bool x.pk.mr, .int .u8 x.pk.ty, .int .u16 x.pk.sq, .int .u32 x.pk.st, .int .u32 x.pk.sc, .slice os x.pk.ss.length ks, .bool x.pk.has, .int .u16 x.pk.pr, .slice oe x.pk.ex.length ke, .slice ol x.pk.pl.length kl] _ HRG.out Try.underlying43 rfl (by kernel_rfl) ?_) | (refine lnIf (.store 43 (.tmp 4) (.tmp 14)) rfl ?_; refine ln_store_new rfl 43 (.tmp 4) (.tmp 14) rfl wr _ #[.int .i64 d, .int .i64 g, .bool c, .int .i64 x.id, .int .i64 x.layer, .bool x.key, .bool x.pk.mr, .int .u8 x.pk.ty, .int .u16 x.pk.sq, .int .u32 x.pk.st, .int .u32 x.pk.sc, .slice os x.pk.ss.length ks, .bool x.pk.has, .int .u16 x.pk.pr, .slice oe x.pk.ex.length ke, .slice ol x.pk.pl.length kl] rfl rfl rfl (by kernel_rfl) rfl rfl ?_) | (refine lnIf (.load 39 (.tmp 16)) rfl ?_; refine wpList_load_mid rfl 39 (.tmp 16) rfl wr.heap.size 6 rfl [.bool x.pk.mr, .int .u8 x.pk.ty, .int .u16 x.pk.sq, .int .u32 x.pk.st, .int .u32 x.pk.sc, .slice os x.pk.ss.length ks, .bool x.pk.has, .int .u16 x.pk.pr, .slice oe x.pk.ex.length ke, .slice ol x.pk.pl.length kl] _ (ln_cells6 (blk_new wr (.cells #[.int .i64 d, .int .i64 g, .bool c, .int .i64 x.id, .int .i64 x.layer, .bool x.key, .bool x.pk.mr, .int .u8 x.pk.ty, .int .u16 x.pk.sq, .int .u32 x.pk.st, .int .u32 x.pk.sc, .slice os x.pk.ss.length ks, .bool x.pk.has, .int .u16 x.pk.pr, .slice oe x.pk.ex.length ke, .slice ol x.pk.pl.length kl] 43))) Try.underlying39 rfl (by kernel_rfl) ?_) | (refine lnIf (.store 39 (.tmp 5) (.tmp 17)) rfl ?_; refine ln_store_new rfl 39 (.tmp 5) (.tmp 17) rfl (wr.alloc (.cells #[.int .i64 d, .int .i64 g, .bool c, .int .i64 x.id, .int .i64 x.layer, .bool x.key, .bool x.pk.mr, .int .u8 x.pk.ty, .int .u16 x.pk.sq, .int .u32 x.pk.st, .int .u32 x.pk.sc, .slice os x.pk.ss.length ks, .bool x.pk.has, .int .u16 x.pk.pr, .slice oe x.pk.ex.length ke, .slice ol x.pk.pl.length kl] 43)) _ #[.bool x.pk.mr, .int .u8 x.pk.ty, .int .u16 x.pk.sq, .int .u32 x.pk.st, .int .u32 x.pk.sc, .slice os x.pk.ss.length ks, .bool x.pk.has, .int .u16 x.pk.pr, .slice oe x.pk.ex.length ke, .slice ol x.pk.pl.length kl] rfl (by simp [go_sem]) rfl (by kernel_rfl) rfl rfl ?_))
          go_ret
          exact ⟨by rw [hy.out]; rfl, (HMR.out.al _).al _⟩
        · by_cases h2 : (1000 : Int) < (x.pk.ex.length : Int)
          · skip
            have hy := Lib.hid (lrgA_yes hlt (by unfold bigA; rw [HXE.out]; simp; omega))
            clear hel
            go_wp2_with (first | (refine lnIf (.load 43 (.tmp 13)) rfl ?_; refine wpList_load_mid rfl 43 (.tmp 13) rfl b (off + j * 16) rfl [.int .i64 d, .int .i64 g, .bool c, .int .i64 x.id, .int .i64 x.layer, .bool x.key, .bool x.pk.mr, .int .u8 x.pk.ty, .int .u16 x.pk.sq, .int .u32 x.pk.st, .int .u32 x.pk.sc, .slice os x.pk.ss.length ks, .bool x.pk.has, .int .u16 x.pk.pr, .slice oe x.pk.ex.length ke, .slice ol x.pk.pl.length kl] _ HRG.out Try.underlying43 rfl (by kernel_rfl) ?_) | (refine lnIf (.store 43 (.tmp 4) (.tmp 14)) rfl ?_; refine ln_store_new rfl 43 (.tmp 4) (.tmp 14) rfl wr _ #[.int .i64 d, .int .i64 g, .bool c, .int .i64 x.id, .int .i64 x.layer, .bool x.key, .bool x.pk.mr, .int .u8 x.pk.ty, .int .u16 x.pk.sq, .int .u32 x.pk.st, .int .u32 x.pk.sc, .slice os x.pk.ss.length ks, .bool x.pk.has, .int .u16 x.pk.pr, .slice oe x.pk.ex.length ke, .slice ol x.pk.pl.length kl] rfl rfl rfl (by kernel_rfl) rfl rfl ?_) | (refine lnIf (.load 39 (.tmp 16)) rfl ?_; refine wpList_load_mid rfl 39 (.tmp 16) rfl wr.heap.size 6 rfl [.bool x.pk.mr, .int .u8 x.pk.ty, .int .u16 x.pk.sq, .int .u32 x.pk.st, .int .u32 x.pk.sc, .slice os x.pk.ss.length ks, .bool x.pk.has, .int .u16 x.pk.pr, .slice oe x.pk.ex.length ke, .slice ol x.pk.pl.length kl] _ (ln_cells6 (blk_new wr (.cells #[.int .i64 d, .int .i64 g, .bool c, .int .i64 x.id, .int .i64 x.layer, .bool x.key, .bool x.pk.mr, .int .u8 x.pk.ty, .int .u16 x.pk.sq, .int .u32 x.pk.st, .int .u32 x.pk.sc, .slice os x.pk.ss.length ks, .bool x.pk.has, .int .u16 x.pk.pr, .slice oe x.pk.ex.length ke, .slice ol x.pk.pl.length kl] 43))) Try.underlying39 rfl (by kernel_rfl) ?_) | (refine lnIf (.store 39 (.tmp 5) (.tmp 17)) rfl ?_; refine ln_store_new rfl 39 (.tmp 5) (.tmp 17) rfl (wr.alloc (.cells #[.int .i64 d, .int .i64 g, .bool c, .int .i64 x.id, .int .i64 x.layer, .bool x.key, .bool x.pk.mr, .int .u8 x.pk.ty, .int .u16 x.pk.sq, .int .u32 x.pk.st, .int .u32 x.pk.sc, .slice os x.pk.ss.length ks, .bool x.pk.has, .int .u16 x.pk.pr, .slice oe x.pk.ex.length ke, .slice ol x.pk.pl.length kl] 43)) _ #[.bool x.pk.mr, .int .u8 x.pk.ty, .int .u16 x.pk.sq, .int .u32 x.pk.st, .int .u32 x.pk.sc, .slice os x.pk.ss.length ks, .bool x.pk.has, .int .u16 x.pk.pr, .slice oe x.pk.ex.length ke, .slice ol x.pk.pl.length kl] rfl (by simp [go_sem]) rfl (by kernel_rfl) rfl rfl ?_))
            go_ret
            exact ⟨by rw [hy.out]; rfl, (HMR.out.al _).al _⟩
          · by_cases h3 : (1000 : Int) < (x.pk.pl.length : Int)
            · skip
              have hy := Lib.hid (lrgA_yes hlt (by unfold bigA; rw [HXE.out]; simp; omega))
              clear hel
              go_wp2_with (first | (refine lnIf (.load 43 (.tmp 13)) rfl ?_; refine wpList_load_mid rfl 43 (.tmp 13) rfl b (off + j * 16) rfl [.int .i64 d, .int .i64 g, .bool c, .int .i64 x.id, .int .i64 x.layer, .bool x.key, .bool x.pk.mr, .int .u8 x.pk.ty, .int .u16 x.pk.sq, .int .u32 x.pk.st, .int .u32 x.pk.sc, .slice os x.pk.ss.length ks, .bool x.pk.has, .int .u16 x.pk.pr, .slice oe x.pk.ex.length ke, .slice ol x.pk.pl.length kl] _ HRG.out Try.underlying43 rfl (by kernel_rfl) ?_) | (refine lnIf (.store 43 (.tmp 4) (.tmp 14)) rfl ?_; refine ln_store_new rfl 43 (.tmp 4) (.tmp 14) rfl wr _ #[.int .i64 d, .int .i64 g, .bool c, .int .i64 x.id, .int .i64 x.layer, .bool x.key, .bool x.pk.mr, .int .u8 x.pk.ty, .int .u16 x.pk.sq, .int .u32 x.pk.st, .int .u32 x.pk.sc, .slice os x.pk.ss.length ks, .bool x.pk.has, .int .u16 x.pk.pr, .slice oe x.pk.ex.length ke, .slice ol x.pk.pl.length kl] rfl rfl rfl (by kernel_rfl) rfl rfl ?_) | (refine lnIf (.load 39 (.tmp 16)) rfl ?_; refine wpList_load_mid rfl 39 (.tmp 16) rfl wr.heap.size 6 rfl [.bool x.pk.mr, .int .u8 x.pk.ty, .int .u16 x.pk.sq, .int .u32 x.pk.st, .int .u32 x.pk.sc, .slice os x.pk.ss.length ks, .bool x.pk.has, .int .u16 x.pk.pr, .slice oe x.pk.ex.length ke, .slice ol x.pk.pl.length kl] _ (ln_cells6 (blk_new wr (.cells #[.int .i64 d, .int .i64 g, .bool c, .int .i64 x.id, .int .i64 x.layer, .bool x.key, .bool x.pk.mr, .int .u8 x.pk.ty, .int .u16 x.pk.sq, .int .u32 x.pk.st, .int .u32 x.pk.sc, .slice os x.pk.ss.length ks, .bool x.pk.has, .int .u16 x.pk.pr, .slice oe x.pk.ex.length ke, .slice ol x.pk.pl.length kl] 43))) Try.underlying39 rfl (by kernel_rfl) ?_) | (refine lnIf (.store 39 (.tmp 5) (.tmp 17)) rfl ?_; refine ln_store_new rfl 39 (.tmp 5) (.tmp 17) rfl (wr.alloc (.cells #[.int .i64 d, .int .i64 g, .bool c, .int .i64 x.id, .int .i64 x.layer, .bool x.key, .bool x.pk.mr, .int .u8 x.pk.ty, .int .u16 x.pk.sq, .int .u32 x.pk.st, .int .u32 x.pk.sc, .slice os x.pk.ss.length ks, .bool x.pk.has, .int .u16 x.pk.pr, .slice oe x.pk.ex.length ke, .slice ol x.pk.pl.length kl] 43)) _ #[.bool x.pk.mr, .int .u8 x.pk.ty, .int .u16 x.pk.sq, .int .u32 x.pk.st, .int .u32 x.pk.sc, .slice os x.pk.ss.length ks, .bool x.pk.has, .int .u16 x.pk.pr, .slice oe x.pk.ex.length ke, .slice ol x.pk.pl.length kl] rfl (by simp [go_sem]) rfl (by kernel_rfl) rfl rfl ?_))
              go_ret
              exact ⟨by rw [hy.out]; rfl, (HMR.out.al _).al _⟩
            · have HJ : Hid (bigA (l.getD j act0) = false) := Lib.hid (by unfold bigA; rw [HXE.out]; simp; omega)
              go_wp2_with (first | (refine lnIf (.load 43 (.tmp 13)) rfl ?_; refine wpList_load_mid rfl 43 (.tmp 13) rfl b (off + j * 16) rfl [.int .i64 d, .int .i64 g, .bool c, .int .i64 x.id, .int .i64 x.layer, .bool x.key, .bool x.pk.mr, .int .u8 x.pk.ty, .int .u16 x.pk.sq, .int .u32 x.pk.st, .int .u32 x.pk.sc, .slice os x.pk.ss.length ks, .bool x.pk.has, .int .u16 x.pk.pr, .slice oe x.pk.ex.length ke, .slice ol x.pk.pl.length kl] _ HRG.out Try.underlying43 rfl (by kernel_rfl) ?_) | (refine lnIf (.store 43 (.tmp 4) (.tmp 14)) rfl ?_; refine ln_store_new rfl 43 (.tmp 4) (.tmp 14) rfl wr _ #[.int .i64 d, .int .i64 g, .bool c, .int .i64 x.id, .int .i64 x.layer, .bool x.key, .bool x.pk.mr, .int .u8 x.pk.ty, .int .u16 x.pk.sq, .int .u32 x.pk.st, .int .u32 x.pk.sc, .slice os x.pk.ss.length ks, .bool x.pk.has, .int .u16 x.pk.pr, .slice oe x.pk.ex.length ke, .slice ol x.pk.pl.length kl] rfl rfl rfl (by kernel_rfl) rfl rfl ?_) | (refine lnIf (.load 39 (.tmp 16)) rfl ?_; refine wpList_load_mid rfl 39 (.tmp 16) rfl wr.heap.size 6 rfl [.bool x.pk.mr, .int .u8 x.pk.ty, .int .u16 x.pk.sq, .int .u32 x.pk.st, .int .u32 x.pk.sc, .slice os x.pk.ss.length ks, .bool x.pk.has, .int .u16 x.pk.pr, .slice oe x.pk.ex.length ke, .slice ol x.pk.pl.length kl] _ (ln_cells6 (blk_new wr (.cells #[.int .i64 d, .int .i64 g, .bool c, .int .i64 x.id, .int .i64 x.layer, .bool x.key, .bool x.pk.mr, .int .u8 x.pk.ty, .int .u16 x.pk.sq, .int .u32 x.pk.st, .int .u32 x.pk.sc, .slice os x.pk.ss.length ks, .bool x.pk.has, .int .u16 x.pk.pr, .slice oe x.pk.ex.length ke, .slice ol x.pk.pl.length kl] 43))) Try.underlying39 rfl (by kernel_rfl) ?_) | (refine lnIf (.store 39 (.tmp 5) (.tmp 17)) rfl ?_; refine ln_store_new rfl 39 (.tmp 5) (.tmp 17) rfl (wr.alloc (.cells #[.int .i64 d, .int .i64 g, .bool c, .int .i64 x.id, .int .i64 x.layer, .bool x.key, .bool x.pk.mr, .int .u8 x.pk.ty, .int .u16 x.pk.sq, .int .u32 x.pk.st, .int .u32 x.pk.sc, .slice os x.pk.ss.length ks, .bool x.pk.has, .int .u16 x.pk.pr, .slice oe x.pk.ex.length ke, .slice ol x.pk.pl.length kl] 43)) _ #[.bool x.pk.mr, .int .u8 x.pk.ty, .int .u16 x.pk.sq, .int .u32 x.pk.st, .int .u32 x.pk.sc, .slice os x.pk.ss.length ks, .bool x.pk.has, .int .u16 x.pk.pr, .slice oe x.pk.ex.length ke, .slice ol x.pk.pl.length kl] rfl (by simp [go_sem]) rfl (by kernel_rfl) rfl rfl ?_))
              go_roundw
              case rel => exact ⟨j + 1, by omega, by go_num, (fun i hi => by
                  by_cases e : i < j
                  · exact HALL.out i e
                  · obtain rfl : i = j := by omega
                    exact HJ.out), (HMR.out.al _).al _⟩
              case measure => simp [intOf]; omega
      · obtain rfl : j = l.length := by omega
        have hy := Lib.hid (lrgA_no_of (by omega) hall)
        clear hall hel
        go_wp2
        go_ret
        exact ⟨by rw [hy.out]; rfl, hmr⟩
  · have hy : lrgA l = true := by unfold lrgA; rw [Bool.or_eq_true]; exact Or.inl (by simpa using by omega)
    have HY := Lib.hid hy
    clear hy hel
    go_enter Try.func11, Try.ntmps11
    go_wp2
    go_ret
    exact ⟨by rw [HY.out]; rfl, More.refl _⟩
/-- An act; did a packet come? -/
def doP (s : LnS) (a : ActS) (id : Int) : LnS × Bool :=
  if a.doo = 0 then ((putP s { a.x with id := id }).1, (putP s { a.x with id := id }).2.2.2 == 0) else if a.doo = 1 then ((chooseP s).1, false) else if a.doo = 2 then ((rewriteP s).1, false)
  else if a.doo = 3 then ((writeP s a.acc).1, false) else if a.doo = 4 then ((wantP s a.x.layer).1, false) else (s, false)
section
variable {N N' : Nat → Prop} {w : World} {L : Nat} {s : LnS}
theorem LnAt.wider (h : LnAt N w L s) (hN : ∀ b, N b → N' b) (hb : ∀ b, N' b → b < w.heap.size) : LnAt N' w L s := by
  obtain ⟨k, vo, e, x⟩ := h
  have hD : ∀ b, lnD N' k b → lnD N k b := fun b h hn => h (hN b hn)
  have hE : ∀ b, lnE N' k vo b → lnE N k vo b ∨ w.heap.size ≤ b := fun b h => by
    rcases h with h | h
    · exact Or.inl (Or.inl (hD b h))
    · exact Or.inl (Or.inr h)
  exact ⟨k, vo, e, hb, fun b hm => hN b (x.muts b hm), x.dist, x.blk, x.r1.step (Away.refl (fun _ => False) w) (fun e => e) (fun e => e) (fun _ e => e.elim) hE, x.r2.step (Away.refl (fun _ => False) w) (fun e => e) (fun e => e) (fun _ e => e.elim) hE, x.r3.step (Away.refl (fun _ => False) w) (fun e => e) (fun e => e) (fun _ e => e.elim) hE, x.out.widen (fun b h => Or.inl (hD b h)), x.ok⟩
end
section
variable {N : Nat → Prop} {w : World} {L : Nat} {s : LnS}
set_option maxHeartbeats 4000000 in
theorem do_at (h : LnAt N w L s) (hW : s.W.length ≤ 1000000) (d g : Int) (c : Bool) (x : ItS) (id : Int) (os oe ol : Option Addr) (ks ke kl : Nat) (hp : PkS w (.slice os x.pk.ss.length ks) (.slice oe x.pk.ex.length ke) (.slice ol x.pk.pl.length kl) x.pk) (hok : PkOK x.pk) (hsm : PkSm x.pk) :
    Calls Try.prog 19 #[.pointer (some ⟨L, 0, none⟩), .agg #[.int .i64 d, .int .i64 g, .bool c, .int .i64 x.id, .int .i64 x.layer, .bool x.key, .bool x.pk.mr, .int .u8 x.pk.ty, .int .u16 x.pk.sq, .int .u32 x.pk.st, .int .u32 x.pk.sc, .slice os x.pk.ss.length ks, .bool x.pk.has, .int .u16 x.pk.pr, .slice oe x.pk.ex.length ke, .slice ol x.pk.pl.length kl], .int .i64 id] w fun e w' => e = .returned (.bool (doP s ⟨d, g, c, x⟩ id).2) ∧ LnAt (Grew N w w') w' L (doP s ⟨d, g, c, x⟩ id).1 ∧ Away N w w' := by
  have KEY := Lib.hid (fun (w1 : World) (m : More w w1) => h.on m)
  have HW := Lib.hid hW
  have HP := Lib.hid (fun (w' : World) (m : More w w') => hp.keep m)
  have HOK := Lib.hid hok
  have HSM := Lib.hid hsm
  clear h hW hp hok hsm
  have fin : ∀ (w1 w2 : World) (s' : LnS), More w w1 → LnAt (Grew N w1 w2) w2 L s' → Away N w1 w2 → LnAt (Grew N w w2) w2 L s' ∧ Away N w w2 := fun w1 w2 s' m l a => ⟨l.wider (fun b hb => by
    rcases hb with e | e
    · exact Or.inl e
    · exact Or.inr ⟨Nat.le_trans m.size e.1, e.2⟩) (fun b hb => by
    rcases hb with e | e
    · have := (KEY.out _ (More.refl _)).sub b e
      have := m.size
      have := a.size
      omega
    · exact e.2), (Away.of_more m).trans a⟩
  have FIN := Lib.hid fin
  clear fin
  by_cases h0 : d = 0
  · subst h0
    have e : doP s ⟨0, g, c, x⟩ id = ((putP s { x with id := id }).1, (putP s { x with id := id }).2.2.2 == 0) := rfl
    rw [e]
    clear e
    obtain ⟨R, hR⟩ : ∃ R, putP s { x with id := id } = R := ⟨_, rfl⟩
    rw [hR]
    have HR := Lib.hid hR
    clear hR
    go_enter Try.func19, Try.ntmps19
    go_wp2_with (go_at_call 13; ((with_reducible refine (put_at (KEY.out _ (More.alloc _ _)) { x with id := id } os oe ol ks ke kl (HP.out _ (More.alloc _ _)) HOK.out HSM.out).mono ?_); rintro e w2 ⟨rfl, l2, a2⟩; rw [HR.out] at l2; try rw [HR.out]; have L2 := Lib.hid l2; have A2 := Lib.hid a2; clear l2 a2))
    go_ret
    exact ⟨by simp, FIN.out _ _ _ (More.alloc _ _) L2.out A2.out⟩
  by_cases h1 : d = 1
  · subst h1
    have e : doP s ⟨1, g, c, x⟩ id = ((chooseP s).1, false) := rfl
    rw [e]
    clear e h0
    obtain ⟨R, hR⟩ : ∃ R, chooseP s = R := ⟨_, rfl⟩
    rw [hR]
    have HR := Lib.hid hR
    clear hR
    go_enter Try.func19, Try.ntmps19
    go_wp2_with (go_at_call 14; ((with_reducible refine (choose_at (KEY.out _ (More.alloc _ _))).mono ?_); rintro e w2 ⟨rfl, l2, a2⟩; rw [HR.out] at l2; try rw [HR.out]; have L2 := Lib.hid l2; have A2 := Lib.hid a2; clear l2 a2))
    go_ret
    exact ⟨rfl, FIN.out _ _ _ (More.alloc _ _) L2.out A2.out⟩
  by_cases h2 : d = 2
  · subst h2
    have e : doP s ⟨2, g, c, x⟩ id = ((rewriteP s).1, false) := rfl
    rw [e]
    clear e h0
    obtain ⟨R, hR⟩ : ∃ R, rewriteP s = R := ⟨_, rfl⟩
    rw [hR]
    have HR := Lib.hid hR
    clear hR
    go_enter Try.func19, Try.ntmps19
    go_wp2_with (go_at_call 15; ((with_reducible refine (rewrite_at (KEY.out _ (More.alloc _ _))).mono ?_); rintro e w2 ⟨rfl, l2, a2⟩; rw [HR.out] at l2; try rw [HR.out]; have L2 := Lib.hid l2; have A2 := Lib.hid a2; clear l2 a2))
    go_ret
    exact ⟨rfl, FIN.out _ _ _ (More.alloc _ _) L2.out A2.out⟩
  by_cases h3 : d = 3
  · subst h3
    have e : doP s ⟨3, g, c, x⟩ id = ((writeP s c).1, false) := rfl
    rw [e]
    clear e h0
    obtain ⟨R, hR⟩ : ∃ R, writeP s c = R := ⟨_, rfl⟩
    rw [hR]
    have HR := Lib.hid hR
    clear hR
    go_enter Try.func19, Try.ntmps19
    go_wp2_with (go_at_call 16; ((with_reducible refine (write_at (KEY.out _ (More.alloc _ _)) HW.out c).mono ?_); rintro e w2 ⟨rfl, l2, a2⟩; rw [HR.out] at l2; try rw [HR.out]; have L2 := Lib.hid l2; have A2 := Lib.hid a2; clear l2 a2))
    go_ret
    exact ⟨rfl, FIN.out _ _ _ (More.alloc _ _) L2.out A2.out⟩
  by_cases h4 : d = 4
  · subst h4
    have e : doP s ⟨4, g, c, x⟩ id = ((wantP s x.layer).1, false) := rfl
    rw [e]
    clear e h0
    obtain ⟨R, hR⟩ : ∃ R, wantP s x.layer = R := ⟨_, rfl⟩
    rw [hR]
    have HR := Lib.hid hR
    clear hR
    go_enter Try.func19, Try.ntmps19
    go_wp2_with (go_at_call 17; ((with_reducible refine (want_at (KEY.out _ (More.alloc _ _)) x.layer).mono ?_); rintro e w2 ⟨rfl, l2, a2⟩; rw [HR.out] at l2; try rw [HR.out]; have L2 := Lib.hid l2; have A2 := Lib.hid a2; clear l2 a2))
    go_ret
    exact ⟨rfl, FIN.out _ _ _ (More.alloc _ _) L2.out A2.out⟩
  have e : doP s ⟨d, g, c, x⟩ id = (s, false) := by unfold doP; simp only [h0, h1, h2, h3, h4, if_false]
  rw [e]
  clear e
  go_enter Try.func19, Try.ntmps19
  go_wp2
  go_ret
  exact ⟨rfl, FIN.out _ _ _ (More.alloc _ _) ((KEY.out _ (More.alloc _ _)).wider (fun b hb => Or.inl hb) (fun b hb => by
    rcases hb with e | e
    · have := (KEY.out _ (More.refl _)).sub b e
      simp; omega
    · exact e.2)) (Away.refl _ _)⟩
end
end Go.Proofs.Ytdgmmffedhikcaa
/- What was written, in the document's form; two such rows compared. -/
namespace Go.Proofs.Ytdgmmffedhikcaa
set_option linter.unusedSimpArgs false
set_option linter.unusedVariables false
open Go.RowKit Go.Lib
set_option maxRecDepth 100000

/-- An id, and bytes. -/
def RRo : Reader (Int × List Int) := fun w cs o => ∃ v, cs = [.int .i64 o.1, v] ∧ SlI .u8 w v o.2
theorem keepsRo : Keeps RRo := fun _ _ _ _ m ⟨v, h1, h2⟩ => ⟨v, h1, h2.keep m⟩
def out0 : Int × List Int := (0, [])
theorem SlP.to_ro {base : Nat} {w : World} {v : Value} {l : List (Int × List Int)} (h : SlP 2 (ROn base) w v l) : SlP 2 RRo w v l := by
  obtain ⟨oa, cap, h1, h2, h3, h4⟩ := h
  refine ⟨oa, cap, h1, h2, fun i hi => ?_, h4⟩
  obtain ⟨b, off, cs, e, hb, hl, hc, u, e2, hs, _⟩ := h3 i hi
  exact ⟨b, off, cs, e, hb, hl, hc, u, e2, hs⟩
theorem lnOuts {w : World} {v : Value} {l : List (Int × List Int)} (h : SlP 2 RRo w v l) : ∃ oa cap, v = .slice oa l.length cap ∧ (l.length : Int) ≤ 9223372036854775807 ∧ ∀ i, i < l.length → ∃ b off ob cb, oa = some ⟨b, off, none⟩ ∧ b < w.heap.size ∧
    w.cell? ⟨b, off + i * 2, none⟩ = some (.int .i64 (l.getD i out0).1) ∧ w.cell? ⟨b, off + i * 2 + 1, none⟩ = some (.slice ob (l.getD i out0).2.length cb) ∧ SlI .u8 w (.slice ob (l.getD i out0).2.length cb) (l.getD i out0).2 := by
  obtain ⟨oa, cap, h1, h2, h3, _⟩ := h
  refine ⟨oa, cap, h1, h2, fun i hi => ?_⟩
  obtain ⟨b, off, cs, e, hb, hl, hc, u, rfl, ob, cb, rfl, hs⟩ := h3 i hi
  have e0 := hc 0 (by omega)
  have e1 := hc 1 (by omega)
  have eg : l.getD i out0 = l[i] := by simp [hi]
  rw [eg]
  simp at e0 e1
  exact ⟨b, off, ob, cb, e, hb, e0, e1, ob, cb, rfl, hs⟩
theorem ln_snoc {α : Type} (l : List α) (j : Nat) (d : α) (h : j < l.length) : l.take (j + 1) = l.take j ++ [l.getD j d] := by
  rw [List.take_add_one, List.getElem?_eq_getElem h]
  simp [h]
set_option maxHeartbeats 1000000 in
theorem own20 (v : Value) (l : List (Int × List Int)) (w : World) (sl : SlP 2 RRo w v l) (hl : l.length ≤ 100000) :
    Calls Try.prog 30 #[v] w fun e w' => ∃ v', e = .returned v' ∧ SlP 2 RRo w' v' l ∧ More w w' := by
  obtain ⟨i0, hi, hz0, hz1, hz2⟩ := info_parts (P := Try.prog) (e := 93) (z := .agg #[.int .i64 0, .slice none 0 0]) (size := 2) (bytes := 32) (by kernel_rfl)
  obtain ⟨oa, cap, rfl, hl63, hel⟩ := lnOuts sl
  clear sl
  have hr0 : RowP 2 RRo (fun _ => False) (w.alloc (.cells #[] 93)) w.heap.size 93 (.slice (some ⟨w.heap.size, 0, none⟩) 0 0) [] :=
    ⟨⟨[], by simpa using World.ownsRow_lit (e := 93) (size := 2) (base := w.heap.size) w #[] 0 (Nat.le_refl _) (by unfold maxLen; omega) rfl, fun i hi => by simp at hi⟩, fun _ _ h => h⟩
  have hm0 := More.alloc w (.cells #[] 93)
  go_enter Try.func30, Try.ntmps30
  go_wp2
  go_loopw [3, 9] (fun u i wr => ∃ j : Nat, j ≤ l.length ∧ i = .int .i64 j ∧ (∃ ou nu cu, u = .slice ou nu cu ∧ RowP 2 RRo (fun _ => False) wr w.heap.size 93 (.slice ou nu cu) (l.take j)) ∧ More w wr) (fun _ i _ => l.length - (intOf i).toNat)
  case atStart => exact ⟨0, by omega, rfl, ⟨_, _, _, rfl, by simpa using hr0⟩, hm0⟩
  case round =>
    obtain ⟨j, hj, rfl, ⟨ou, nu, cu, rfl, hr⟩, hmr⟩ := hrel
    by_cases hlt : j < l.length
    · obtain ⟨b, off, ob, cb, rfl, hb, h0, h1, hs⟩ := hel j hlt
      have ht0 := Lib.hid hs
      have c0 : wr.cell? ⟨b, off + j * 2, none⟩ = some (.int .i64 (l.getD j out0).1) := by rw [hmr.cells _ _ hb]; exact h0
      have c1 : wr.cell? ⟨b, off + j * 2 + 1, none⟩ = some (.slice ob (l.getD j out0).2.length cb) := by rw [hmr.cells _ _ hb]; exact h1
      have hjl : (j : Int) < (l.length : Int) := by omega
      have hbw : b < wr.heap.size := Nat.lt_of_lt_of_le hb hmr.size
      have HS := Lib.hid (ln_snoc l j out0 hlt)
      have hlen : (l.take j).length = j := by simp; omega
      have hrge : ∀ b, (Value.slice ou nu cu).ownBlock = some b → w.heap.size ≤ b := fun b h => hr.ge h
      have HG := Lib.hid hrge
      generalize hacc : l.take j = acc at *
      clear hel hs h0 h1 hr0 hrge hacc
      generalize l.getD j out0 = c at *
      have hr2 := (hr.on (More.alloc wr (.cells #[.int .i64 c.1, .slice ob c.2.length cb] 78))).on (More.alloc _ (.cells #[.int .i64 c.1, .slice ob c.2.length cb] 93))
      have hm2 := (hmr.al (.cells #[.int .i64 c.1, .slice ob c.2.length cb] 78)).al (.cells #[.int .i64 c.1, .slice ob c.2.length cb] 93)
      have hy : RdOff RRo (fun k => False ∨ (Value.slice ou nu cu).ownBlock = some k) _ [.int .i64 c.1, .slice ob c.2.length cb] c := (RdOff.old keepsRo (show RRo w [.int .i64 c.1, .slice ob c.2.length cb] c from ⟨_, rfl, ht0.out⟩) (D := fun k => False ∨ (Value.slice ou nu cu).ownBlock = some k) (fun k hk => by
        rcases hk with hk | hk
        · exact hk.elim
        · exact HG.out k hk)).on hm2
      have HY := Lib.hid hy
      clear hy
      go_wp2_with (at_builtin; refine wpList_append_row _ rfl (.tmp 13) (.tmp 15) 91 rfl w.heap.size 93 i0 (.agg #[.int .i64 0, .slice none 0 0]) 2 32 Try.underlying91 hi hz0 hz1 hz2 rfl (by decide) _ acc rfl hr2 (wr.heap.size + 1) [.int .i64 c.1, .slice ob c.2.length cb] c rfl rfl (ln_new_cells (by simp)) (by simp [Value.oneCell']) HY.out (fun b h => h.elim) (by decide) (by omega) hm2.size ?_; intro v' w8 ho hg hb; have m8 : More w w8 := Below.grown hm2 hg hm2.size HG.out; obtain ⟨ou8, nu8, cu8, rfl, hz8, hz9⟩ := ho.shape; have O8 := Lib.hid ho; clear ho hg hb hz8 hz9)
      go_roundw
      case rel => exact ⟨j + 1, by omega, by go_num, ⟨_, _, _, rfl, by rw [HS.out]; exact O8.out⟩, m8⟩
      case measure => simp [intOf]; omega
    · obtain rfl : j = l.length := by omega
      rw [List.take_length] at hr
      clear hel
      go_wp2
      go_ret
      exact ⟨_, rfl, hr.sl (by decide), hmr⟩
set_option maxHeartbeats 1000000 in
theorem Same20_eq (l : List (Int × List Int)) (va vb : Value) (w : World) (ha : SlP 2 RRo w va l) (hb : SlP 2 RRo w vb l) :
    Calls Try.prog 29 #[va, vb] w fun e w' => e = .returned (.bool true) ∧ More w w' := by
  obtain ⟨oa, capa, rfl, hla, hea⟩ := lnOuts ha
  obtain ⟨ob, capb, rfl, hlb, heb⟩ := lnOuts hb
  clear ha hb
  go_enter Try.func29, Try.ntmps29
  go_wp2
  go_loopw [5] (fun i wr => ∃ j : Nat, j ≤ l.length ∧ i = .int .i64 j ∧ More w wr) (fun i _ => l.length - (intOf i).toNat)
  case atStart => exact ⟨0, by omega, rfl, More.refl _⟩
  case round =>
    obtain ⟨j, hj, rfl, hmr⟩ := hrel
    by_cases hlt : j < l.length
    · obtain ⟨b1, off1, ob1, cb1, rfl, hb1, p1, p2, p3⟩ := hea j hlt
      obtain ⟨b2, off2, ob2, cb2, rfl, hb2, q1, q2, q3⟩ := heb j hlt
      have hjl : (j : Int) < (l.length : Int) := by omega
      have hj0 : (0 : Int) ≤ (j : Int) := by omega
      have hb1r : b1 < wr.heap.size := Nat.lt_of_lt_of_le hb1 hmr.size
      have hb2r : b2 < wr.heap.size := Nat.lt_of_lt_of_le hb2 hmr.size
      clear hea heb
      generalize l.getD j out0 = x at *
      obtain ⟨k1, y1⟩ := x
      have C10 : ∀ x : Later wr, x.w'.cell? ⟨b1, off1 + j * 2, none⟩ = some (.int .i64 k1) := fun x => by rw [(hmr.trans x.h).cells _ _ hb1]; exact p1
      have C11 : ∀ x : Later wr, x.w'.cell? ⟨b1, off1 + j * 2 + 1, none⟩ = some (.slice ob1 y1.length cb1) := fun x => by rw [(hmr.trans x.h).cells _ _ hb1]; exact p2
      have C20 : ∀ x : Later wr, x.w'.cell? ⟨b2, off2 + j * 2, none⟩ = some (.int .i64 k1) := fun x => by rw [(hmr.trans x.h).cells _ _ hb2]; exact q1
      have C21 : ∀ x : Later wr, x.w'.cell? ⟨b2, off2 + j * 2 + 1, none⟩ = some (.slice ob2 y1.length cb2) := fun x => by rw [(hmr.trans x.h).cells _ _ hb2]; exact q2
      have s1 : ∀ x : Later wr, SlI .u8 x.w' (.slice ob1 y1.length cb1) y1 := fun x => p3.keep (hmr.trans x.h)
      have s2 : ∀ x : Later wr, SlI .u8 x.w' (.slice ob2 y1.length cb2) y1 := fun x => q3.keep (hmr.trans x.h)
      have e1b : (k1 != k1) = false := by simp
      have hcall : ∀ x : Later wr, Calls Try.prog 28 #[.slice ob1 y1.length cb1, .slice ob2 y1.length cb2] x.w' fun e w' => e = .returned (.bool true) ∧ ∃ k, w' = x.w'.drewN k := fun x => by
        have := Same_any y1 y1 _ _ _ (s1 x) (s2 x)
        rw [decide_eq_true rfl] at this
        exact this
      clear p1 p2 p3 q1 q2 q3 s1 s2
      go_wp2_with fail
      refine wp_region_later _ (More.refl _) (by kernel_rfl) (by kernel_rfl) ?_
      repeat (go_big_quiet_step ((go_at_call 28; exact calls_later_drew (hcall _))))
      refine wpQuiet_nil ?_
      intro _ hw'
      obtain ⟨x9, rfl⟩ := hw'
      go_wp2
      go_roundw
      case rel => exact ⟨j + 1, by omega, by go_num, hmr.trans x9.h⟩
      case measure => simp [intOf]; omega
    · obtain rfl : j = l.length := by omega
      clear hea heb
      go_wp2
      go_ret
      exact ⟨rfl, hmr⟩
end Go.Proofs.Ytdgmmffedhikcaa
