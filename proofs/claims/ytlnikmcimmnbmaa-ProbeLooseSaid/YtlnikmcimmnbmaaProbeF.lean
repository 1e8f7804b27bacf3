/- Descriptions: Begins; the law's awake. -/
import Derived.Test.YtlnikmcimmnbmaaProbeC
import Derived.Test.YtlnikmcimmnbmaaProbeE
namespace Go.Proofs.Ytlnikmcimmnbmaa
set_option linter.unusedSimpArgs false
set_option linter.unusedVariables false
open Go.RowKit
set_option maxRecDepth 100000

theorem headD_len (s : RdS) : (headD s).2.2.1.length ≤ s.1.length := by
  have h1 : ∀ s : RdS, (tkS s 1).1.length ≤ s.1.length := fun s => by unfold tkS tkL; rw [List.length_drop]; omega
  unfold headD
  split
  · exact Nat.le_trans (h1 _) (h1 _)
  · exact h1 _
theorem readD_n (b : List Int) : 0 ≤ (readD b).2.1 ∧ (readD b).2.1 ≤ b.length := by
  have h1 := headD_len (b, 0)
  have h2 := restD_len (headD (b, 0)).1 (headD (b, 0)).2.1 (headD (b, 0)).2.2
  unfold readD endD
  split
  · exact ⟨Int.le_refl _, by simp⟩
  · simp only at h1 ⊢
    omega
theorem readD_pt (b : List Int) (hb : Byt b) : 0 ≤ (readD b).1.pt ∧ (readD b).1.pt ≤ 7 := by
  unfold readD endD
  split
  · exact ⟨by decide, by decide⟩
  · simp only [restD, mkD]
    omega
set_option maxHeartbeats 4000000 in
theorem BeginsD_any (v : Value) (b : List Int) (w : World) (sl : SlI .u8 w v b) (hb : Byt b) (hl : b.length ≤ 1000000) :
    Calls Try.prog 40 #[v] w fun e w' => e = .returned (.bool (beginsD b)) ∧ More w w' := by
  have SL := Lib.hid sl
  have hn := readD_n b
  have hbd : beginsD b = (decide ((readD b).2.2 = 0) && (readD b).1.st && decide ((readD b).1.pt = 0) && decide ((readD b).2.1 < b.length) && decide (b.getD (readD b).2.1.toNat 0 % 2 = 0)) := rfl
  obtain ⟨ob, cb, rfl, _, hel, _⟩ := sl
  obtain ⟨ST, hST⟩ : ∃ ST, (readD b).1.st = ST := ⟨_, rfl⟩
  obtain ⟨PT, hPT⟩ : ∃ PT, (readD b).1.pt = PT := ⟨_, rfl⟩
  obtain ⟨NN, hN⟩ : ∃ NN, (readD b).2.1 = NN := ⟨_, rfl⟩
  obtain ⟨EE, hE⟩ : ∃ EE, (readD b).2.2 = EE := ⟨_, rfl⟩
  rw [hN] at hn
  rw [hST, hPT, hN, hE] at hbd
  have HST := Lib.hid hST
  have HPT := Lib.hid hPT
  have HN := Lib.hid hN
  have HE := Lib.hid hE
  obtain ⟨n0, n1⟩ := hn
  clear hST hPT hN hE
  by_cases h1 : EE = 0
  · cases ST with
    | false =>
      have HR : Hid (beginsD b = false) := Lib.hid (by rw [hbd]; simp)
      subst h1
      clear hbd hel n0 n1
      go_enter Try.func40, Try.ntmps40
      go_wp2_with (go_at_call 41; ((with_reducible refine (ReadD_any _ b _ SL.out hb hl).mono ?_); rintro e w2 ⟨rfl, m2⟩; have M2 := Lib.hid m2; have SL2 := Lib.hid ((SL.out.keep m2).keep (More.alloc _ (.cells #[.bool (readD b).1.lo, .bool (readD b).1.st, .int .u8 (readD b).1.pt, .int .i64 (readD b).1.pic, .bool (readD b).1.wd, .int .i64 (readD b).1.bs, .int .i64 (readD b).1.tr, .bool (readD b).1.sy, .int .i64 (readD b).1.ky] 77))); clear m2; rw [HST.out, HPT.out, HN.out, HE.out]))
      go_ret
      exact ⟨by rw [HR.out]; try rfl, M2.out.al _⟩
    | true =>
      by_cases h2 : PT = 0
      · by_cases h3 : NN < b.length
        · obtain ⟨k, rfl⟩ : ∃ k : Nat, NN = k := ⟨NN.toNat, by omega⟩
          have hk : k < b.length := by omega
          obtain ⟨bb, off, rfl, hbw, hc⟩ := hel k hk
          have hbk := hb k
          have HR : Hid (beginsD b = decide (b.getD k 0 % 2 = 0)) := Lib.hid (by rw [hbd, decide_eq_true h1, decide_eq_true h2, decide_eq_true h3]; simp)
          have hge : ¬ (b.length : Int) ≤ (k : Int) := by omega
          subst h1 h2
          clear hbd hel n0 n1
          generalize b.getD k 0 = x at *
          obtain ⟨x0, x1⟩ := hbk
          go_enter Try.func40, Try.ntmps40
          go_wp2_with (go_at_call 41; ((with_reducible refine (ReadD_any _ b _ SL.out hb hl).mono ?_); rintro e w2 ⟨rfl, m2⟩; have M2 := Lib.hid m2; rw [HST.out, HPT.out, HN.out, HE.out]; have hc2 : w2.cell? ⟨bb, off + k, none⟩ = some (.int .u8 x) := (by rw [m2.cells bb _ hbw]; exact hc); have hb2 : bb < w2.heap.size := Nat.lt_of_lt_of_le hbw m2.size; clear m2))
          go_ret
          exact ⟨by rw [HR.out]; first | rfl | (congr 2; rw [Bool.eq_iff_iff]; simp), M2.out.al _⟩
        · have HR : Hid (beginsD b = false) := Lib.hid (by rw [hbd, decide_eq_false h3]; simp)
          have hge : (b.length : Int) ≤ NN := by omega
          subst h1 h2
          clear hbd hel n0 n1
          go_enter Try.func40, Try.ntmps40
          go_wp2_with (go_at_call 41; ((with_reducible refine (ReadD_any _ b _ SL.out hb hl).mono ?_); rintro e w2 ⟨rfl, m2⟩; have M2 := Lib.hid m2; have SL2 := Lib.hid ((SL.out.keep m2).keep (More.alloc _ (.cells #[.bool (readD b).1.lo, .bool (readD b).1.st, .int .u8 (readD b).1.pt, .int .i64 (readD b).1.pic, .bool (readD b).1.wd, .int .i64 (readD b).1.bs, .int .i64 (readD b).1.tr, .bool (readD b).1.sy, .int .i64 (readD b).1.ky] 77))); clear m2; rw [HST.out, HPT.out, HN.out, HE.out]))
          go_ret
          exact ⟨by rw [HR.out]; try rfl, M2.out.al _⟩
      · have HR : Hid (beginsD b = false) := Lib.hid (by rw [hbd, decide_eq_false h2]; simp)
        have h2' : (PT != 0) = true := by simpa using h2
        subst h1
        clear hbd hel n0 n1 h2
        go_enter Try.func40, Try.ntmps40
        go_wp2_with (go_at_call 41; ((with_reducible refine (ReadD_any _ b _ SL.out hb hl).mono ?_); rintro e w2 ⟨rfl, m2⟩; have M2 := Lib.hid m2; have SL2 := Lib.hid ((SL.out.keep m2).keep (More.alloc _ (.cells #[.bool (readD b).1.lo, .bool (readD b).1.st, .int .u8 (readD b).1.pt, .int .i64 (readD b).1.pic, .bool (readD b).1.wd, .int .i64 (readD b).1.bs, .int .i64 (readD b).1.tr, .bool (readD b).1.sy, .int .i64 (readD b).1.ky] 77))); clear m2; rw [HST.out, HPT.out, HN.out, HE.out]))
        go_ret
        exact ⟨by rw [HR.out]; try rfl, M2.out.al _⟩
  · have HR : Hid (beginsD b = false) := Lib.hid (by rw [hbd, decide_eq_false h1]; simp)
    have h1' : (EE != 0) = true := by simpa using h1
    clear hbd hel n0 n1 h1
    go_enter Try.func40, Try.ntmps40
    go_wp2_with (go_at_call 41; ((with_reducible refine (ReadD_any _ b _ SL.out hb hl).mono ?_); rintro e w2 ⟨rfl, m2⟩; have M2 := Lib.hid m2; have SL2 := Lib.hid ((SL.out.keep m2).keep (More.alloc _ (.cells #[.bool (readD b).1.lo, .bool (readD b).1.st, .int .u8 (readD b).1.pt, .int .i64 (readD b).1.pic, .bool (readD b).1.wd, .int .i64 (readD b).1.bs, .int .i64 (readD b).1.tr, .bool (readD b).1.sy, .int .i64 (readD b).1.ky] 77))); clear m2; rw [HST.out, HPT.out, HN.out, HE.out]))
    go_ret
    exact ⟨by rw [HR.out]; try rfl, M2.out.al _⟩
end Go.Proofs.Ytlnikmcimmnbmaa
