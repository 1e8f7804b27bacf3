/- Packets: the document's Right and Bytes. -/
import Derived.Test.YtlnikmcimmnbmaaHeadH
namespace Go.Proofs.Ytlnikmcimmnbmaa
set_option linter.unusedSimpArgs false
set_option linter.unusedVariables false
open Go.RowKit
set_option maxRecDepth 100000

set_option maxHeartbeats 4000000 in
theorem RRightH_any (p : Pk) (vs ve vp : Value) (w : World) (h : PkS w vs ve vp p) (hm : PkSm p) :
    Calls Try.prog 33 #[.agg #[.bool p.mr, .int .u8 p.ty, .int .u16 p.sq, .int .u32 p.st, .int .u32 p.sc, vs, .bool p.has, .int .u16 p.pr, ve, vp]] w fun e w' => e = .returned (.bool (rightH p)) ∧ More w w' := by
  have hri := rightH_iff p
  have hsz : sizeH p = 12 + 4 * (p.ss.length : Int) + (p.pl.length : Int) + if p.has then 4 + (p.ex.length : Int) else 0 := rfl
  obtain ⟨⟨os, ks, rfl, _⟩, ⟨oe, ke, rfl, hce⟩, ⟨ol, kl, rfl, _⟩⟩ := h
  clear hce
  obtain ⟨m1, m2, m3⟩ := hm
  obtain ⟨SZ, hSZ⟩ : ∃ SZ, sizeH p = SZ := ⟨_, rfl⟩
  rw [hSZ] at hri hsz
  clear hSZ
  obtain ⟨R, hR⟩ : ∃ R, rightH p = R := ⟨_, rfl⟩
  rw [hR] at hri ⊢
  clear hR
  obtain ⟨mr, ty, sq, st, sc, ss, has, pr, ex, pl⟩ := p
  simp only at *
  have hexl : ex = [] ↔ ex.length = 0 := List.length_eq_zero_iff.symm
  rw [hexl] at hri
  clear hexl
  have hz0 : (if has then 4 + (ex.length : Int) else 0) ≥ 0 := by split <;> omega
  have no : (R = true → False) → Hid (R = false) := fun h => Lib.hid (by
    cases R with
    | false => rfl
    | true => exact absurd rfl h)
  by_cases h1 : 127 < ty
  · have HR := no (fun e => by have := hri.1 e; omega)
    clear hri hsz no hz0
    go_enter Try.func33, Try.ntmps33
    go_wp2
    go_ret
    exact ⟨by rw [HR.out]; first | rfl | (simp; omega), More.alloc _ _⟩
  by_cases h2 : 15 < (ss.length : Int)
  · have HR := no (fun e => by have := hri.1 e; omega)
    clear hri hsz no hz0
    go_enter Try.func33, Try.ntmps33
    go_wp2
    go_ret
    exact ⟨by rw [HR.out]; first | rfl | (simp; omega), More.alloc _ _⟩
  by_cases h3 : 200 < (ex.length : Int)
  · have HR := no (fun e => by
      obtain ⟨_, _, a, _, b⟩ := hri.1 e
      cases has with
      | false => have := (a rfl).2; omega
      | true => simp only [if_true] at hsz; omega)
    clear hri hsz no hz0
    go_enter Try.func33, Try.ntmps33
    go_wp2
    go_ret
    exact ⟨by rw [HR.out]; first | rfl | (simp; omega), More.alloc _ _⟩
  by_cases h4 : 200 < (pl.length : Int)
  · have HR := no (fun e => by have := hri.1 e; omega)
    clear hri hsz no hz0
    go_enter Try.func33, Try.ntmps33
    go_wp2
    go_ret
    exact ⟨by rw [HR.out]; first | rfl | (simp; omega), More.alloc _ _⟩
  by_cases h5 : (ex.length : Int) % 4 = 0
  · have h5' : ((ex.length : Int)).tmod 4 = 0 := by rw [Int.tmod_eq_emod_of_nonneg (by omega)]; exact h5
    cases has with
    | true =>
      simp only [if_true] at hsz
      by_cases h6 : 12 + 4 * (ss.length : Int) + (pl.length : Int) + 4 + (ex.length : Int) ≤ 200
      · have HR : Hid (R = true) := Lib.hid (hri.2 ⟨by omega, by omega, fun e => (by cases e), h5, by omega⟩)
        clear hri hsz no hz0
        go_enter Try.func33, Try.ntmps33
        go_wp2
        go_ret
        exact ⟨by rw [HR.out]; first | rfl | (simp; omega), More.alloc _ _⟩
      · have HR := no (fun e => by have := hri.1 e; omega)
        clear hri hsz no hz0
        go_enter Try.func33, Try.ntmps33
        go_wp2
        go_ret
        exact ⟨by rw [HR.out]; first | rfl | (simp; omega), More.alloc _ _⟩
    | false =>
      simp only [Bool.false_eq_true, if_false] at hsz
      by_cases h6 : pr = 0
      · subst h6
        by_cases h7 : 0 < (ex.length : Int)
        · have HR := no (fun e => by have := (hri.1 e).2.2.1 rfl; omega)
          clear hri hsz no hz0
          go_enter Try.func33, Try.ntmps33
          go_wp2
          go_ret
          exact ⟨by rw [HR.out]; first | rfl | (simp; omega), More.alloc _ _⟩
        · by_cases h8 : 12 + 4 * (ss.length : Int) + (pl.length : Int) ≤ 200
          · have HR : Hid (R = true) := Lib.hid (hri.2 ⟨by omega, by omega, fun _ => ⟨rfl, by omega⟩, h5, by omega⟩)
            clear hri hsz no hz0
            go_enter Try.func33, Try.ntmps33
            go_wp2
            go_ret
            exact ⟨by rw [HR.out]; first | rfl | (simp; omega), More.alloc _ _⟩
          · have HR := no (fun e => by have := hri.1 e; omega)
            clear hri hsz no hz0
            go_enter Try.func33, Try.ntmps33
            go_wp2
            go_ret
            exact ⟨by rw [HR.out]; first | rfl | (simp; omega), More.alloc _ _⟩
      · have HR := no (fun e => h6 ((hri.1 e).2.2.1 rfl).1)
        have hq : (pr != 0) = true := by simpa using h6
        clear hri hsz no hz0 h6
        go_enter Try.func33, Try.ntmps33
        go_wp2
        go_ret
        exact ⟨by rw [HR.out]; first | rfl | (simp; omega), More.alloc _ _⟩
  · have h5' : ((ex.length : Int) % 4 != 0) = true := by simpa using h5
    have HR := no (fun e => by have := hri.1 e; omega)
    clear hri hsz no hz0
    go_enter Try.func33, Try.ntmps33
    go_wp2
    go_ret
    exact ⟨by rw [HR.out]; first | rfl | (simp; omega), More.alloc _ _⟩
/-- Bytes that grow, beside a block that stays. -/
structure BtS (w0 w : World) (B base : Nat) (v : Value) (l : List Int) (o : Obj) : Prop where
  own : w.ownsRow base 5 1 v l.length (l.map (Value.int .u8))
  more : More w0 w
  keep : w.heap[B]? = some o
  lt : B < base
  old : w0.heap.size ≤ base
  base : base ≤ w.heap.size
theorem BtS.on {w0 w w' : World} {B base : Nat} {v : Value} {l : List Int} {o : Obj} (h : BtS w0 w B base v l o) (m : More w w') : BtS w0 w' B base v l o :=
  ⟨owns_more h.own m, h.more.trans m, blk_more m h.keep, h.lt, h.old, Nat.le_trans h.base m.size⟩
theorem BtS.grown {w0 w w' : World} {B base : Nat} {v v' : Value} {l l' : List Int} {o : Obj} (h : BtS w0 w B base v l o) (ho : w'.ownsRow base 5 1 v' l'.length (l'.map (Value.int .u8))) (g : w.grownBy w' v.ownBlock) : BtS w0 w' B base v' l' o :=
  ⟨ho, h.more.grown g h.more.size (fun z hz => by have := owns_ge h.own hz; have := h.old; omega), grown_blk g h.own h.lt h.keep, h.lt, h.old, Nat.le_trans h.base g.size⟩
set_option maxHeartbeats 4000000 in
theorem RBytesH_no (p : Pk) (vs ve vp : Value) (w : World) (h : PkS w vs ve vp p) (hm : PkSm p) (hr : rightH p = false) :
    Calls Try.prog 28 #[.agg #[.bool p.mr, .int .u8 p.ty, .int .u16 p.sq, .int .u32 p.st, .int .u32 p.sc, vs, .bool p.has, .int .u16 p.pr, ve, vp]] w fun e w' => e = .returned (.tuple #[.slice none 0 0, .int .i64 1]) ∧ More w w' := by
  have HRT := Lib.hid (RRightH_any p vs ve vp (w.alloc (.cells #[.bool p.mr, .int .u8 p.ty, .int .u16 p.sq, .int .u32 p.st, .int .u32 p.sc, vs, .bool p.has, .int .u16 p.pr, ve, vp] 64)) (h.keep (More.alloc _ _)) hm)
  have HRR := Lib.hid hr
  obtain ⟨⟨os, ks, rfl, -⟩, ⟨oe, ke, rfl, -⟩, ⟨ol, kl, rfl, -⟩⟩ := h
  clear hr
  go_enter Try.func28, Try.ntmps28
  go_wp2_with (go_at_call 33; ((with_reducible refine (HRT.out).mono ?_); rintro e wr ⟨rfl, m1⟩; rw [HRR.out]; have M1 := Lib.hid m1; clear m1))
  go_ret2
  exact ⟨rfl, (More.alloc _ _).trans M1.out⟩
end Go.Proofs.Ytlnikmcimmnbmaa
