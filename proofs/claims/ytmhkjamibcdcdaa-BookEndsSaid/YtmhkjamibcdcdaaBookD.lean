/- Contracts of package book: Counts. -/
import Derived.Test.YtmhkjamibcdcdaaBookC
namespace Go.Proofs.Ytmhkjamibcdcdaa
open Go.RowKit
set_option maxRecDepth 100000

/-- How many of a subscriber's entries have a fate. -/
def cntF (sub : Int) (f : Nat) (l : Bk) : Int := ((l.countP fun p => decide (p.1.1 = sub ∧ p.2 = (f : Int)) : Nat) : Int)
def cntArr (sub : Int) (l : Bk) : Array Value := #[.int .i64 (cntF sub 0 l), .int .i64 (cntF sub 1 l), .int .i64 (cntF sub 2 l), .int .i64 (cntF sub 3 l), .int .i64 (cntF sub 4 l), .int .i64 (cntF sub 5 l), .int .i64 (cntF sub 6 l), .int .i64 (cntF sub 7 l), .int .i64 (cntF sub 8 l)]
theorem cntF_le (sub : Int) (f : Nat) (l : Bk) : 0 ≤ cntF sub f l ∧ cntF sub f l ≤ l.length := by
  unfold cntF
  exact ⟨by omega, by have := List.countP_le_length (l := l) (p := fun p => decide (p.1.1 = sub ∧ p.2 = (f : Int))); omega⟩
theorem cntF_snoc (sub : Int) (f : Nat) (l : Bk) (p : (Int × Int) × Int) : cntF sub f (l ++ [p]) = cntF sub f l + if p.1.1 = sub ∧ p.2 = (f : Int) then 1 else 0 := by
  unfold cntF
  rw [List.countP_append]
  by_cases h : p.1.1 = sub ∧ p.2 = (f : Int) <;> simp [h]
theorem cntF_perm (sub : Int) (f : Nat) {a b : Bk} (h : a.Perm b) : cntF sub f a = cntF sub f b := by unfold cntF; rw [h.countP_eq]
theorem cntArr_perm (sub : Int) {a b : Bk} (h : a.Perm b) : cntArr sub a = cntArr sub b := by unfold cntArr; simp only [cntF_perm sub _ h]
theorem cntArr_other (sub : Int) (l : Bk) (p : (Int × Int) × Int) (h : p.1.1 ≠ sub) : cntArr sub (l ++ [p]) = cntArr sub l := by
  unfold cntArr
  simp only [cntF_snoc, h, false_and, if_false, Int.add_zero]
theorem cntArr_at (sub : Int) (l : Bk) (n : Nat) (h : n ≤ 8) : (cntArr sub l)[n]? = some (.int .i64 (cntF sub n l)) := by
  have : n = 0 ∨ n = 1 ∨ n = 2 ∨ n = 3 ∨ n = 4 ∨ n = 5 ∨ n = 6 ∨ n = 7 ∨ n = 8 := by omega
  rcases this with rfl | rfl | rfl | rfl | rfl | rfl | rfl | rfl | rfl <;> rfl
theorem cntArr_step (sub : Int) (l : Bk) (p2 : Int) (n : Nat) (h : n ≤ 8) : (cntArr sub l).setIfInBounds n (.int .i64 (cntF sub n l + 1)) = cntArr sub (l ++ [((sub, p2), (n : Int))]) := by
  unfold cntArr
  simp only [cntF_snoc, true_and]
  have : n = 0 ∨ n = 1 ∨ n = 2 ∨ n = 3 ∨ n = 4 ∨ n = 5 ∨ n = 6 ∨ n = 7 ∨ n = 8 := by omega
  rcases this with rfl | rfl | rfl | rfl | rfl | rfl | rfl | rfl | rfl <;> simp
theorem HR2lt {K V : Type} {w : World} {r b : Nat} {ke : K → Value} {ve : V → Value} {L : List (K × V)} {is : List Nat} (h : RangeAt w r b ke ve L is) : r < w.heap.size := by
  obtain ⟨⟨es, cl, si, c0, seen, hr', _⟩, _⟩ := h
  exact lt_of_block hr'
set_option maxHeartbeats 4000000 in
theorem BCounts {w : World} {B b : Nat} {m : Bk} (h : BookAt w B b m) (sub : Int) (hlen : m.length ≤ 1000000) :
    Calls Try.prog 33 #[.pointer (some ⟨B, 0, none⟩), .int .i64 sub] w fun e w' => e = .returned (.agg (cntArr sub m)) ∧ More w w' := by
  have hx : ∃ W0, W0 = (w.alloc (.cells #[.int .i64 0, .int .i64 0, .int .i64 0, .int .i64 0, .int .i64 0, .int .i64 0, .int .i64 0, .int .i64 0, .int .i64 0] 67)).alloc (.cells #[.int .i64 0, .int .i64 0, .int .i64 0, .int .i64 0, .int .i64 0, .int .i64 0, .int .i64 0, .int .i64 0, .int .i64 0] 67) := ⟨_, rfl⟩
  obtain ⟨W0, hW0⟩ := hx
  have hM0 : More w W0 := by rw [hW0]; exact (More.alloc _ _).al _
  have b0 : W0.heap[w.heap.size]? = some (.cells (cntArr sub []) 67 (0, 0)) := by rw [hW0]; exact blk_alloc (blk_new _ _) _
  have b1 : W0.heap[w.heap.size + 1]? = some (.cells (cntArr sub []) 67 (0, 0)) := by rw [hW0]; exact blk_new2 (by simp)
  have hsz : W0.heap.size = w.heap.size + 2 := by rw [hW0]; simp
  have h0 := h.more hM0
  have c0 := blk_cell h0.blk 0 (v := .map (some b)) rfl
  obtain ⟨w1, hr1, hR1, hM1, hs1⟩ := h0.map.range (P := Try.prog) Try.underlying136
  have hlen' := Lib.hid hlen
  have hbm := h.map.lt
  have hB := blk_lt h.blk
  have HW0 := Lib.hid hW0
  have B0 := Lib.hid (blk_more hM1 b0)
  have B1 := Lib.hid (blk_more hM1 b1)
  rw [hsz] at hR1 hr1
  have HR1 := Lib.hid hR1
  have HM1 := Lib.hid (hM0.trans hM1)
  have HOK := Lib.hid h.ok
  have HSZ := Lib.hid hsz
  rw [hW0] at c0 hr1
  clear h hlen hW0 hM0 b0 b1 hsz h0 hR1 hM1 hs1
  go_enter Try.func33, Try.ntmps33
  go_wp2
  have hw1 : w.heap.size ≤ w1.heap.size := HM1.out.size
  go_loopw [] (fun wr => ∃ is : List Nat, RangeAt wr (w.heap.size + 2) b ke2 (Value.int .i64) m is ∧ wr.heap[w.heap.size]? = some (.cells (cntArr sub []) 67 (0, 0)) ∧ wr.heap[w.heap.size + 1]? = some (.cells (cntArr sub (outs m is)) 67 (0, 0)) ∧ More w wr) (fun wr => rngLeft wr b (w.heap.size + 2))
  case atStart => exact ⟨[], HR1.out, B0.out, B1.out, HM1.out⟩
  case round =>
    obtain ⟨is, hR, hz, hc, hm⟩ := hrel
    have HR := Lib.hid hR
    have HZ := Lib.hid hz
    have HC := Lib.hid hc
    have HM := Lib.hid hm
    have HL := Lib.hid hR.left
    rcases hR.next (P := Try.prog) with ⟨hall, hn⟩ | ⟨i, hi', w2, hni, hlt, hn, hR2, hA2, hs2, he2⟩
    · have HA := Lib.hid hall
      rw [cntArr_perm sub (hR.perm hall)] at hc
      have g0 := blk_cell hc 0 (v := .int .i64 (cntF sub 0 m)) rfl
      have g1 := blk_cell hc 1 (v := .int .i64 (cntF sub 1 m)) rfl
      have g2 := blk_cell hc 2 (v := .int .i64 (cntF sub 2 m)) rfl
      have g3 := blk_cell hc 3 (v := .int .i64 (cntF sub 3 m)) rfl
      have g4 := blk_cell hc 4 (v := .int .i64 (cntF sub 4 m)) rfl
      have g5 := blk_cell hc 5 (v := .int .i64 (cntF sub 5 m)) rfl
      have g6 := blk_cell hc 6 (v := .int .i64 (cntF sub 6 m)) rfl
      have g7 := blk_cell hc 7 (v := .int .i64 (cntF sub 7 m)) rfl
      have g8 := blk_cell hc 8 (v := .int .i64 (cntF sub 8 m)) rfl
      have z0 := blk_cell hz 0 (v := .int .i64 (cntF sub 0 [])) rfl
      have z1 := blk_cell hz 1 (v := .int .i64 (cntF sub 1 [])) rfl
      have z2 := blk_cell hz 2 (v := .int .i64 (cntF sub 2 [])) rfl
      have z3 := blk_cell hz 3 (v := .int .i64 (cntF sub 3 [])) rfl
      have z4 := blk_cell hz 4 (v := .int .i64 (cntF sub 4 [])) rfl
      have z5 := blk_cell hz 5 (v := .int .i64 (cntF sub 5 [])) rfl
      have z6 := blk_cell hz 6 (v := .int .i64 (cntF sub 6 [])) rfl
      have z7 := blk_cell hz 7 (v := .int .i64 (cntF sub 7 [])) rfl
      have z8 := blk_cell hz 8 (v := .int .i64 (cntF sub 8 [])) rfl
      have fz := blk_free hz
      clear hR hz hc hm hall
      go_wp2
      (refine bodyPost_ret (v := .agg (cntArr sub m)) ?rr1 rfl ?_; (case rr1 => (simp [results, Try.results33, go_sem, g0, g1, g2, g3, g4, g5, g6, g7, g8, z0, z1, z2, z3, z4, z5, z6, z7, z8, cntArr])))
      exact ⟨rfl, ((((((((HM.out.st (Nat.le_refl _) _).st (Nat.le_refl _) _).st (Nat.le_refl _) _).st (Nat.le_refl _) _).st (Nat.le_refl _) _).st (Nat.le_refl _) _).st (Nat.le_refl _) _).st (Nat.le_refl _) _).st (Nat.le_refl _) _⟩
    · have hos := outs_snoc (L := m) (is := is) hi'
      have hl4 := hlen'.out
      have hp := HOK.out m[i] (List.getElem_mem hi')
      have hlt' : is.length < 1000000 := by omega
      have ho2 := outs_len m is
      clear hR hz hc hm
      have HOS := Lib.hid hos
      clear hos
      have HI := Lib.hid (rfl : m[i] = m[i])
      generalize m[i] = p at *
      obtain ⟨⟨k1, k2⟩, f⟩ := p
      unfold ke2 at hn he2
      simp only at hn he2 hp
      obtain ⟨n, rfl⟩ : ∃ n : Nat, f = n := ⟨f.toNat, by omega⟩
      have hn8 : n ≤ 8 := by omega
      have hne1 : ¬ (w.heap.size = w.heap.size + 2) := by omega
      have hR3 := hR2.more (More.alloc w2 (.cells #[.int .i64 k1, .int .i64 k2] 54))
      have hz2 := blk_alloc (hA2.blk HZ.out (by omega)) (.cells #[.int .i64 k1, .int .i64 k2] 54)
      have hc2 := blk_alloc (hA2.blk HC.out (by omega)) (.cells #[.int .i64 k1, .int .i64 k2] 54)
      have hM2 : More w w2 := Away.to_more HM.out hA2 (fun k hk => by subst hk; omega)
      have HR3 := Lib.hid hR3
      have HZ2 := Lib.hid hz2
      have HC2 := Lib.hid hc2
      have HM2 := Lib.hid hM2
      have HS2 := Lib.hid hs2
      have q := blk_cell hc2 n (cntArr_at sub (outs m is) n hn8)
      have qf := blk_free hc2 n
      have hb1 := (cntF_le sub n (outs m is)).1
      have hb2 := (cntF_le sub n (outs m is)).2
      generalize hcc : cntF sub n (outs m is) = c at *
      have HCC := Lib.hid hcc
      have hw2 : w.heap.size + 2 < w2.heap.size := by have := HR2lt hR2; exact this
      clear hR3 hz2 hc2 hM2 hs2 hR2 hA2 hcc
      by_cases h1 : k1 = sub
      · subst h1
        go_wp2
        go_roundw
        case rel =>
          have hS := Away.set (Away.refl (fun x => x = w.heap.size + 1) (w2.alloc (.cells #[.int .i64 k1, .int .i64 k2] 54))) (p := ⟨w.heap.size + 1, n, none⟩) rfl (.int .i64 (c + 1))
          refine ⟨is ++ [i], HR3.out.away hS (by omega) (by omega), blk_other HZ2.out _ _ (by simp), ?_, (HM2.out.al _).st (by simp) _⟩
          rw [HOS.out, ← cntArr_step k1 (outs m is) k2 n hn8, HCC.out]
          exact blk_set HC2.out n _
        case measure =>
          have hS := Away.set (Away.refl (fun x => x = w.heap.size + 1) (w2.alloc (.cells #[.int .i64 k1, .int .i64 k2] 54))) (p := ⟨w.heap.size + 1, n, none⟩) rfl (.int .i64 (c + 1))
          rw [HL.out, (HR3.out.away hS (by omega) (by omega)).left]
          simp
          omega
      · have hf : (k1 == sub) = false := by simpa using h1
        go_wp2
        go_roundw
        case rel => exact ⟨is ++ [i], HR3.out, HZ2.out, by rw [HOS.out, cntArr_other sub _ _ h1]; exact HC2.out, HM2.out.al _⟩
        case measure =>
          rw [HL.out, HR3.out.left]
          simp
          omega
end Go.Proofs.Ytmhkjamibcdcdaa
