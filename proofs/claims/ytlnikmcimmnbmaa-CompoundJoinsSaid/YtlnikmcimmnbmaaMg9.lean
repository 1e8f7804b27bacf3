/- Merged from my texts ChunkD. -/
import Derived.Test.YtlnikmcimmnbmaaMg8
/- Chunks: read. -/
namespace Go.Proofs.Ytlnikmcimmnbmaa
set_option linter.unusedSimpArgs false
set_option linter.unusedVariables false
open Go.RowKit
set_option maxRecDepth 100000

theorem and_u8 : ∀ m : Fin 256, bits .and .u8 (m.val : Int) 31 = (m.val : Int) % 32 ∧ bits .and .u8 (m.val : Int) 32 = if (m.val : Int) % 64 < 32 then 0 else 32 := of_decide_eq_true (by kernel_rfl)
theorem and31 {n : Int} (h : 0 ≤ n ∧ n ≤ 255) : bits .and .u8 n 31 = n % 32 := by
  obtain ⟨m, rfl⟩ := Int.eq_ofNat_of_zero_le h.1
  exact (and_u8 ⟨m, by omega⟩).1
theorem and32 {n : Int} (h : 0 ≤ n ∧ n ≤ 255) : (bits .and .u8 n 32 != 0) = !decide (n % 64 < 32) := by
  obtain ⟨m, rfl⟩ := Int.eq_ofNat_of_zero_le h.1
  rw [(and_u8 ⟨m, by omega⟩).2]
  simp only
  by_cases e : (m : Int) % 64 < 32
  · rw [if_pos e]; simp [e]
  · rw [if_neg e]; simp; omega
/-- The first four bytes; behind them. -/
def headC (s : RdS) : (Int × Int × Int) × RdS := ((num (tkB s.1 1), num (tkB (tkS s 1).1 1), num (tkB (tkS (tkS s 1) 1).1 2)), tkS (tkS (tkS s 1) 1) 2)
/-- Behind the form's check. -/
def formC (f : Int) (s : RdS) : RdS := if f < 128 ∨ 191 < f then wrS s 2 else s
/-- A chunk is read. -/
def bodyC (f t n : Int) (s : RdS) : Chunk × RdS :=
  if f % 64 < 32 then ((f % 32, t, tkB s.1 (4 * n), ()), tkS s (4 * n))
  else ((f % 32, t, (unpadC (tkB s.1 (4 * n))).1, ()), if (unpadC (tkB s.1 (4 * n))).2 = false ∨ ¬ (tkS s (4 * n)).1 = [] then wrS (tkS s (4 * n)) 2 else tkS s (4 * n))
def readC (s : RdS) : Chunk × RdS :=
  bodyC (headC s).1.1 (headC s).1.2.1 (headC s).1.2.2 (formC (headC s).1.1 (headC s).2)
/-- A reader, and a block beside it that stays. -/
structure RdK (w0 w : World) (R : Nat) (l : List Int) (e : Int) (B : Nat) (o : Obj) (C : Nat → Prop) : Prop where
  rd : ReaderAt w R l e C
  away : Away (fun b => b = R) w0 w
  keep : w.heap[B]? = some o
  ne : ¬ B = R
theorem RdK.new {w : World} {R : Nat} {l : List Int} {e : Int} {C : Nat → Prop} (o : Obj) (h : ReaderAt w R l e C) : RdK w (w.alloc o) R l e w.heap.size o C :=
  ⟨h.more (More.alloc w o), Away.of_more (More.alloc w o), blk_new w o, fun e => by obtain ⟨v, h1, _⟩ := h.blk; have := blk_lt h1; omega⟩
theorem RdK.step {w0 w w' : World} {R : Nat} {l l' : List Int} {e e' : Int} {B : Nat} {o : Obj} {C : Nat → Prop} (h : RdK w0 w R l e B o C) (r : ReaderAt w' R l' e' C) (a : Away (fun b => b = R) w w') : RdK w0 w' R l' e' B o C :=
  ⟨r, h.away.trans a, a.blk h.keep h.ne, h.ne⟩
theorem unpadC_byt {b : List Int} (h : Byt b) : Byt (unpadC b).1 := by
  unfold unpadC
  split
  · exact byt_nil
  · simp only
    split
    · exact byt_nil
    · exact h.take _
set_option maxHeartbeats 2000000 in
theorem Read07_any {w : World} {R : Nat} {s : RdS} {C : Nat → Prop} (h : ReaderAt w R s.1 s.2 C) :
    Calls Try.prog 152 #[.pointer (some ⟨R, 0, none⟩)] w fun e w' => (∃ vb, e = .returned (.agg #[.int .u8 (readC s).1.1, .int .u8 (readC s).1.2.1, vb]) ∧ SlI .u8 w' vb (readC s).1.2.2.1 ∧ ChunkOK (readC s).1 ∧ ∀ g, vb.ownBlock = some g → w.heap.size ≤ g) ∧ ReaderAt w' R (readC s).2.1 (readC s).2.2 C ∧ Away (fun b => b = R) w w' := by
  have hRlt : R < w.heap.size := by obtain ⟨v, h1, _⟩ := h.blk; exact blk_lt h1
  have X0 := RdK.new (.cells #[.int .u8 0, .int .u8 0, .slice none 0 0] 30) h.old
  have hb1 := tkB_byt h.byt 1
  have hl1 := tkB_len s.1 1 (by decide)
  have hnum1 := num_lt _ 1 hb1 hl1 (by decide)
  have hd : readC s = bodyC (headC s).1.1 (headC s).1.2.1 (headC s).1.2.2 (formC (headC s).1.1 (headC s).2) := rfl
  have HD := Lib.hid hd
  clear hd
  obtain ⟨L, E⟩ := s
  simp only at h X0
  have hB2 : Byt (tkL L 1) := h.byt.drop _
  have hB3 : Byt (tkL (tkL L 1) 1) := hB2.drop _
  have hnum2 := num_lt _ 1 (tkB_byt hB2 1) (tkB_len (tkL L 1) 1 (by decide)) (by decide)
  have hnum3 := num_lt _ 2 (tkB_byt hB3 2) (tkB_len (tkL (tkL L 1) 1) 2 (by decide)) (by decide)
  have he : headC (L, E) = ((num (tkB L 1), num (tkB (tkL L 1) 1), num (tkB (tkL (tkL L 1) 1) 2)), (tkL (tkL (tkL L 1) 1) 2, tkE (tkL (tkL L 1) 1) 2 (tkE (tkL L 1) 1 (tkE L 1 E)))) := rfl
  rw [he] at HD
  simp only at HD hnum1
  clear he hb1 hl1
  generalize hn1 : num (tkB L 1) = f at *
  generalize hn2 : num (tkB (tkL L 1) 1) = t at *
  generalize hn3 : num (tkB (tkL (tkL L 1) 1) 2) = n at *
  generalize hL3 : tkL (tkL (tkL L 1) 1) 2 = L3 at *
  generalize hE3 : tkE (tkL (tkL L 1) 1) 2 (tkE (tkL L 1) 1 (tkE L 1 E)) = E3 at *
  have hf : 0 ≤ f ∧ f ≤ 255 := by have := hnum1; simp at this; omega
  have ht : 0 ≤ t ∧ t ≤ 255 := by have := hnum2; simp at this; omega
  have hn : 0 ≤ n ∧ n ≤ 65535 := by have := hnum3; simp at this; omega
  have h31 := and31 hf
  have h32 := and32 hf
  clear hnum1 hnum2 hnum3
  have hw3 : Hid (∀ wz vb q (s9 : RdS), RdK w wz R s9.1 s9.2 w.heap.size (.cells #[.int .u8 0, .int .u8 0, .slice none 0 0] 30) (fun g => C g ∧ g < w.heap.size) → readC (L, E) = ((f % 32, t, q, ()), s9) → SlI .u8 wz vb q → Byt q → (∀ g, vb.ownBlock = some g → w.heap.size + 1 ≤ g) → (∃ vb', Ending.returned (.agg #[.int .u8 (f % 32), .int .u8 t, vb]) = .returned (.agg #[.int .u8 (readC (L, E)).1.1, .int .u8 (readC (L, E)).1.2.1, vb']) ∧ SlI .u8 (((wz.setCell ⟨w.heap.size, 0, none⟩ (.int .u8 (f % 32))).setCell ⟨w.heap.size, 1, none⟩ (.int .u8 t)).setCell ⟨w.heap.size, 2, none⟩ vb) vb' (readC (L, E)).1.2.2.1 ∧ ChunkOK (readC (L, E)).1 ∧ ∀ g, vb'.ownBlock = some g → w.heap.size ≤ g) ∧ ReaderAt (((wz.setCell ⟨w.heap.size, 0, none⟩ (.int .u8 (f % 32))).setCell ⟨w.heap.size, 1, none⟩ (.int .u8 t)).setCell ⟨w.heap.size, 2, none⟩ vb) R (readC (L, E)).2.1 (readC (L, E)).2.2 C ∧ Away (fun b => b = R) w (((wz.setCell ⟨w.heap.size, 0, none⟩ (.int .u8 (f % 32))).setCell ⟨w.heap.size, 1, none⟩ (.int .u8 t)).setCell ⟨w.heap.size, 2, none⟩ vb)) := Lib.hid (by
    intro wz vb q s9 X e1 sv bq hg
    have aB : Away (fun b => b = w.heap.size) wz (((wz.setCell ⟨w.heap.size, 0, none⟩ (.int .u8 (f % 32))).setCell ⟨w.heap.size, 1, none⟩ (.int .u8 t)).setCell ⟨w.heap.size, 2, none⟩ vb) := (((Away.refl (fun b => b = w.heap.size) wz).set (p := ⟨w.heap.size, 0, none⟩) rfl _).set (p := ⟨w.heap.size, 1, none⟩) rfl _).set (p := ⟨w.heap.size, 2, none⟩) rfl _
    rw [e1]
    refine ⟨⟨vb, rfl, sv.off (fun b hb e => by have := hg b hb; omega) aB, ⟨by simp only; omega, ht, bq⟩, fun g h => by have := hg g h; omega⟩, ?_, ?_⟩
    · exact (X.rd.off aB (fun e => X.ne e.symm) (fun g hC e => by have := hC.2; omega)).mono fun g h => h.1
    · exact ⟨aB.os.trans X.away.os, aB.tape.trans X.away.tape, aB.output.trans X.away.output, Nat.le_trans X.away.size aB.size, fun k hk hs => by rw [aB.block k (Nat.lt_of_lt_of_le hk X.away.size) (by omega)]; exact X.away.block k hk hs⟩)
  obtain ⟨⟨L4, E4⟩, hS4'⟩ : ∃ S4, formC f (L3, E3) = S4 := ⟨_, rfl⟩
  rw [hS4'] at HD
  have hfw : (f < 128 ∧ wrS (L3, E3) 2 = (L4, E4)) ∨ (¬ f < 128 ∧ 191 < f ∧ wrS (L3, E3) 2 = (L4, E4)) ∨ (¬ f < 128 ∧ ¬ 191 < f ∧ L3 = L4 ∧ E3 = E4) := by
    unfold formC at hS4'
    by_cases h1 : f < 128
    · rw [if_pos (Or.inl h1)] at hS4'; exact Or.inl ⟨h1, hS4'⟩
    · by_cases h2 : 191 < f
      · rw [if_pos (Or.inr h2)] at hS4'; exact Or.inr (Or.inl ⟨h1, h2, hS4'⟩)
      · rw [if_neg (by omega)] at hS4'; exact Or.inr (Or.inr ⟨h1, h2, congrArg Prod.fst hS4', congrArg Prod.snd hS4'⟩)
  have hpw : (f % 64 < 32 ∧ readC (L, E) = ((f % 32, t, tkB L4 (4 * n), ()), (tkL L4 (4 * n), tkE L4 (4 * n) E4))) ∨ (¬ f % 64 < 32 ∧ (unpadC (tkB L4 (4 * n))).2 = false ∧ readC (L, E) = ((f % 32, t, (unpadC (tkB L4 (4 * n))).1, ()), wrS ((tkL L4 (4 * n), tkE L4 (4 * n) E4)) 2)) ∨ (¬ f % 64 < 32 ∧ (unpadC (tkB L4 (4 * n))).2 = true ∧ 0 < (tkL L4 (4 * n)).length ∧ readC (L, E) = ((f % 32, t, (unpadC (tkB L4 (4 * n))).1, ()), wrS ((tkL L4 (4 * n), tkE L4 (4 * n) E4)) 2)) ∨ (¬ f % 64 < 32 ∧ (unpadC (tkB L4 (4 * n))).2 = true ∧ (tkL L4 (4 * n)).length = 0 ∧ readC (L, E) = ((f % 32, t, (unpadC (tkB L4 (4 * n))).1, ()), (tkL L4 (4 * n), tkE L4 (4 * n) E4))) := by
    rw [HD.out]
    unfold bodyC
    by_cases h1 : f % 64 < 32
    · rw [if_pos h1]; exact Or.inl ⟨h1, rfl⟩
    · rw [if_neg h1]
      have e0 : (tkS (L4, E4) (4 * n)).1 = tkL L4 (4 * n) := rfl
      rw [e0]
      cases hu : (unpadC (tkB L4 (4 * n))).2 with
      | false => rw [if_pos (Or.inl rfl)]; exact Or.inr (Or.inl ⟨h1, rfl, rfl⟩)
      | true =>
        by_cases h2 : tkL L4 (4 * n) = []
        · rw [if_neg (by simp [h2])]; exact Or.inr (Or.inr (Or.inr ⟨h1, rfl, by simp [h2], rfl⟩))
        · rw [if_pos (Or.inr h2)]; exact Or.inr (Or.inr (Or.inl ⟨h1, rfl, List.length_pos_iff.2 h2, rfl⟩))
  clear HD hS4'
  rcases hpw with ⟨hp, hread⟩ | ⟨hp, hok, hread⟩ | ⟨hp, hok, hlf, hread⟩ | ⟨hp, hok, hlf, hread⟩
  · rw [decide_eq_true hp, Bool.not_true] at h32
    have HRD := Lib.hid hread
    clear hread hp
    rcases hfw with ⟨h1, hS4⟩ | ⟨h1, h2, hS4⟩ | ⟨h1, h2, hS4, hS5⟩
    · go_enter Try.func152, Try.ntmps152
      go_wp2_with first | (go_at_call 88; ((with_reducible refine (RdByte_any X0.rd).mono ?_); rintro e w6 ⟨rfl, r6, a6⟩; have X6 := X0.step r6 a6; rw [hn1])) | (go_at_call 88; ((with_reducible refine (RdByte_any X6.rd).mono ?_); rintro e w7 ⟨rfl, r7, a7⟩; have X7 := X6.step r7 a7; rw [hn2])) | (go_at_call 89; ((with_reducible refine (RdShort_any X7.rd).mono ?_); rintro e w8 ⟨rfl, r8, a8⟩; have X8 := X7.step r8 a8; rw [hn3]; rw [hL3, hE3] at X8)) | (go_at_call 90; ((with_reducible refine (RdWrong_any (s := (L3, E3)) X8.rd 2).mono ?_); rintro e w9 ⟨rfl, r9, a9⟩; have X9 := X8.step r9 a9; rw [hS4] at X9; have X9 : RdK w w9 R L4 E4 w.heap.size (.cells #[.int .u8 0, .int .u8 0, .slice none 0 0] 30) (fun g => C g ∧ g < w.heap.size) := X9)) | (go_at_call 91; ((with_reducible refine (RdRaw_any (4 * n) X9.rd).mono ?_); rintro e w10 ⟨v10, rfl, ho, r10, a10⟩; have X10 := Lib.hid (X9.step r10 a10); have hl10 := tkB_len2 L4 (4 * n); have sm10 := X9.rd.small; have s10 := Lib.hid (SlI.of_owns ho (by omega)); have g10 : Hid (∀ g, v10.ownBlock = some g → w.heap.size + 1 ≤ g) := Lib.hid (fun g h => Nat.le_trans (Nat.lt_of_lt_of_le (blk_lt X9.keep) (Nat.le_refl _)) (owns_ge ho h)); have b10 := Lib.hid (tkB_byt X9.rd.byt (4 * n)); obtain ⟨o10, n10, c10, rfl, hz10⟩ := slice_of_row ho; clear ho hz10 hl10 sm10; have c0 := blk_cell X10.out.keep 0 (v := .int .u8 0) rfl; have c1 := blk_cell X10.out.keep 1 (v := .int .u8 0) rfl; have c2 := blk_cell X10.out.keep 2 (v := .slice none 0 0) rfl; have f0 := blk_free X10.out.keep 0; have f1 := blk_free X10.out.keep 1; have f2 := blk_free X10.out.keep 2))
      (refine bodyPost_ret (v := .agg #[.int .u8 (f % 32), .int .u8 t, .slice o10 n10 c10]) ?rr1 rfl ?_; (case rr1 => (simp [results, Try.results152, go_sem, c0, c1, c2])))
      exact hw3.out _ _ _ _ X10.out HRD.out s10.out b10.out g10.out
    · go_enter Try.func152, Try.ntmps152
      go_wp2_with first | (go_at_call 88; ((with_reducible refine (RdByte_any X0.rd).mono ?_); rintro e w6 ⟨rfl, r6, a6⟩; have X6 := X0.step r6 a6; rw [hn1])) | (go_at_call 88; ((with_reducible refine (RdByte_any X6.rd).mono ?_); rintro e w7 ⟨rfl, r7, a7⟩; have X7 := X6.step r7 a7; rw [hn2])) | (go_at_call 89; ((with_reducible refine (RdShort_any X7.rd).mono ?_); rintro e w8 ⟨rfl, r8, a8⟩; have X8 := X7.step r8 a8; rw [hn3]; rw [hL3, hE3] at X8)) | (go_at_call 90; ((with_reducible refine (RdWrong_any (s := (L3, E3)) X8.rd 2).mono ?_); rintro e w9 ⟨rfl, r9, a9⟩; have X9 := X8.step r9 a9; rw [hS4] at X9; have X9 : RdK w w9 R L4 E4 w.heap.size (.cells #[.int .u8 0, .int .u8 0, .slice none 0 0] 30) (fun g => C g ∧ g < w.heap.size) := X9)) | (go_at_call 91; ((with_reducible refine (RdRaw_any (4 * n) X9.rd).mono ?_); rintro e w10 ⟨v10, rfl, ho, r10, a10⟩; have X10 := Lib.hid (X9.step r10 a10); have hl10 := tkB_len2 L4 (4 * n); have sm10 := X9.rd.small; have s10 := Lib.hid (SlI.of_owns ho (by omega)); have g10 : Hid (∀ g, v10.ownBlock = some g → w.heap.size + 1 ≤ g) := Lib.hid (fun g h => Nat.le_trans (Nat.lt_of_lt_of_le (blk_lt X9.keep) (Nat.le_refl _)) (owns_ge ho h)); have b10 := Lib.hid (tkB_byt X9.rd.byt (4 * n)); obtain ⟨o10, n10, c10, rfl, hz10⟩ := slice_of_row ho; clear ho hz10 hl10 sm10; have c0 := blk_cell X10.out.keep 0 (v := .int .u8 0) rfl; have c1 := blk_cell X10.out.keep 1 (v := .int .u8 0) rfl; have c2 := blk_cell X10.out.keep 2 (v := .slice none 0 0) rfl; have f0 := blk_free X10.out.keep 0; have f1 := blk_free X10.out.keep 1; have f2 := blk_free X10.out.keep 2))
      (refine bodyPost_ret (v := .agg #[.int .u8 (f % 32), .int .u8 t, .slice o10 n10 c10]) ?rr2 rfl ?_; (case rr2 => (simp [results, Try.results152, go_sem, c0, c1, c2])))
      exact hw3.out _ _ _ _ X10.out HRD.out s10.out b10.out g10.out
    · have hS4 := hS4.symm
      have hS5 := hS5.symm
      subst hS4 hS5
      go_enter Try.func152, Try.ntmps152
      go_wp2_with first | (go_at_call 88; ((with_reducible refine (RdByte_any X0.rd).mono ?_); rintro e w6 ⟨rfl, r6, a6⟩; have X6 := X0.step r6 a6; rw [hn1])) | (go_at_call 88; ((with_reducible refine (RdByte_any X6.rd).mono ?_); rintro e w7 ⟨rfl, r7, a7⟩; have X7 := X6.step r7 a7; rw [hn2])) | (go_at_call 89; ((with_reducible refine (RdShort_any X7.rd).mono ?_); rintro e w8 ⟨rfl, r8, a8⟩; have X8 := X7.step r8 a8; rw [hn3]; rw [hL3, hE3] at X8; have X9 := X8)) | (go_at_call 91; ((with_reducible refine (RdRaw_any (4 * n) X9.rd).mono ?_); rintro e w10 ⟨v10, rfl, ho, r10, a10⟩; have X10 := Lib.hid (X9.step r10 a10); have hl10 := tkB_len2 L4 (4 * n); have sm10 := X9.rd.small; have s10 := Lib.hid (SlI.of_owns ho (by omega)); have g10 : Hid (∀ g, v10.ownBlock = some g → w.heap.size + 1 ≤ g) := Lib.hid (fun g h => Nat.le_trans (Nat.lt_of_lt_of_le (blk_lt X9.keep) (Nat.le_refl _)) (owns_ge ho h)); have b10 := Lib.hid (tkB_byt X9.rd.byt (4 * n)); obtain ⟨o10, n10, c10, rfl, hz10⟩ := slice_of_row ho; clear ho hz10 hl10 sm10; have c0 := blk_cell X10.out.keep 0 (v := .int .u8 0) rfl; have c1 := blk_cell X10.out.keep 1 (v := .int .u8 0) rfl; have c2 := blk_cell X10.out.keep 2 (v := .slice none 0 0) rfl; have f0 := blk_free X10.out.keep 0; have f1 := blk_free X10.out.keep 1; have f2 := blk_free X10.out.keep 2))
      (refine bodyPost_ret (v := .agg #[.int .u8 (f % 32), .int .u8 t, .slice o10 n10 c10]) ?rr3 rfl ?_; (case rr3 => (simp [results, Try.results152, go_sem, c0, c1, c2])))
      exact hw3.out _ _ _ _ X10.out HRD.out s10.out b10.out g10.out
  · rw [decide_eq_false hp, Bool.not_false] at h32
    have HRD := Lib.hid hread
    clear hread hp
    have hub := unpadC_byt (b := tkB L4 (4 * n))
    have HUB := Lib.hid hub
    clear hub
    rcases hfw with ⟨h1, hS4⟩ | ⟨h1, h2, hS4⟩ | ⟨h1, h2, hS4, hS5⟩
    · go_enter Try.func152, Try.ntmps152
      go_wp2_with first | (go_at_call 88; ((with_reducible refine (RdByte_any X0.rd).mono ?_); rintro e w6 ⟨rfl, r6, a6⟩; have X6 := X0.step r6 a6; rw [hn1])) | (go_at_call 88; ((with_reducible refine (RdByte_any X6.rd).mono ?_); rintro e w7 ⟨rfl, r7, a7⟩; have X7 := X6.step r7 a7; rw [hn2])) | (go_at_call 89; ((with_reducible refine (RdShort_any X7.rd).mono ?_); rintro e w8 ⟨rfl, r8, a8⟩; have X8 := X7.step r8 a8; rw [hn3]; rw [hL3, hE3] at X8)) | (go_at_call 90; ((with_reducible refine (RdWrong_any (s := (L3, E3)) X8.rd 2).mono ?_); rintro e w9 ⟨rfl, r9, a9⟩; have X9 := X8.step r9 a9; rw [hS4] at X9; have X9 : RdK w w9 R L4 E4 w.heap.size (.cells #[.int .u8 0, .int .u8 0, .slice none 0 0] 30) (fun g => C g ∧ g < w.heap.size) := X9)) | (go_at_call 91; ((with_reducible refine (RdRaw_any (4 * n) X9.rd).mono ?_); rintro e w10 ⟨v10, rfl, ho, r10, a10⟩; have X10 := Lib.hid (X9.step r10 a10); have hl10 := tkB_len2 L4 (4 * n); have sm10 := X9.rd.small; have s10 := Lib.hid (SlI.of_owns ho (by omega)); have g10 : Hid (∀ g, v10.ownBlock = some g → w.heap.size + 1 ≤ g) := Lib.hid (fun g h => Nat.le_trans (Nat.lt_of_lt_of_le (blk_lt X9.keep) (Nat.le_refl _)) (owns_ge ho h)); have b10 := Lib.hid (tkB_byt X9.rd.byt (4 * n)); obtain ⟨o10, n10, c10, rfl, hz10⟩ := slice_of_row ho; clear ho hz10 hl10 sm10)) | (go_at_call 159; ((with_reducible refine (Unpad_any s10.out b10.out).mono ?_); rintro e w11 ⟨⟨v11, rfl, s11, g11⟩, rfl⟩; rw [hok]; have S11 := Lib.hid s11; have G11 := Lib.hid g11; obtain ⟨o11, c11, rfl, _⟩ := s11; clear g11)) | (go_at_call 90; ((with_reducible refine (RdWrong_any (s := (tkL L4 (4 * n), tkE L4 (4 * n) E4)) X10.out.rd 2).mono ?_); rintro e w12 ⟨rfl, r12, a12⟩; have X12 := Lib.hid (X10.out.step r12 a12); have T12 := Lib.hid (S11.out.off (fun b hb e => by have := g10.out b (G11.out b hb); omega) a12); have c0 := blk_cell X12.out.keep 0 (v := .int .u8 0) rfl; have c1 := blk_cell X12.out.keep 1 (v := .int .u8 0) rfl; have c2 := blk_cell X12.out.keep 2 (v := .slice none 0 0) rfl; have f0 := blk_free X12.out.keep 0; have f1 := blk_free X12.out.keep 1; have f2 := blk_free X12.out.keep 2))
      (refine bodyPost_ret (v := .agg #[.int .u8 (f % 32), .int .u8 t, .slice o11 (unpadC (tkB L4 (4 * n))).1.length c11]) ?rr4 rfl ?_; (case rr4 => (simp [results, Try.results152, go_sem, c0, c1, c2])))
      exact hw3.out _ _ _ _ X12.out HRD.out T12.out (HUB.out b10.out) (fun g h => g10.out g (G11.out g h))
    · go_enter Try.func152, Try.ntmps152
      go_wp2_with first | (go_at_call 88; ((with_reducible refine (RdByte_any X0.rd).mono ?_); rintro e w6 ⟨rfl, r6, a6⟩; have X6 := X0.step r6 a6; rw [hn1])) | (go_at_call 88; ((with_reducible refine (RdByte_any X6.rd).mono ?_); rintro e w7 ⟨rfl, r7, a7⟩; have X7 := X6.step r7 a7; rw [hn2])) | (go_at_call 89; ((with_reducible refine (RdShort_any X7.rd).mono ?_); rintro e w8 ⟨rfl, r8, a8⟩; have X8 := X7.step r8 a8; rw [hn3]; rw [hL3, hE3] at X8)) | (go_at_call 90; ((with_reducible refine (RdWrong_any (s := (L3, E3)) X8.rd 2).mono ?_); rintro e w9 ⟨rfl, r9, a9⟩; have X9 := X8.step r9 a9; rw [hS4] at X9; have X9 : RdK w w9 R L4 E4 w.heap.size (.cells #[.int .u8 0, .int .u8 0, .slice none 0 0] 30) (fun g => C g ∧ g < w.heap.size) := X9)) | (go_at_call 91; ((with_reducible refine (RdRaw_any (4 * n) X9.rd).mono ?_); rintro e w10 ⟨v10, rfl, ho, r10, a10⟩; have X10 := Lib.hid (X9.step r10 a10); have hl10 := tkB_len2 L4 (4 * n); have sm10 := X9.rd.small; have s10 := Lib.hid (SlI.of_owns ho (by omega)); have g10 : Hid (∀ g, v10.ownBlock = some g → w.heap.size + 1 ≤ g) := Lib.hid (fun g h => Nat.le_trans (Nat.lt_of_lt_of_le (blk_lt X9.keep) (Nat.le_refl _)) (owns_ge ho h)); have b10 := Lib.hid (tkB_byt X9.rd.byt (4 * n)); obtain ⟨o10, n10, c10, rfl, hz10⟩ := slice_of_row ho; clear ho hz10 hl10 sm10)) | (go_at_call 159; ((with_reducible refine (Unpad_any s10.out b10.out).mono ?_); rintro e w11 ⟨⟨v11, rfl, s11, g11⟩, rfl⟩; rw [hok]; have S11 := Lib.hid s11; have G11 := Lib.hid g11; obtain ⟨o11, c11, rfl, _⟩ := s11; clear g11)) | (go_at_call 90; ((with_reducible refine (RdWrong_any (s := (tkL L4 (4 * n), tkE L4 (4 * n) E4)) X10.out.rd 2).mono ?_); rintro e w12 ⟨rfl, r12, a12⟩; have X12 := Lib.hid (X10.out.step r12 a12); have T12 := Lib.hid (S11.out.off (fun b hb e => by have := g10.out b (G11.out b hb); omega) a12); have c0 := blk_cell X12.out.keep 0 (v := .int .u8 0) rfl; have c1 := blk_cell X12.out.keep 1 (v := .int .u8 0) rfl; have c2 := blk_cell X12.out.keep 2 (v := .slice none 0 0) rfl; have f0 := blk_free X12.out.keep 0; have f1 := blk_free X12.out.keep 1; have f2 := blk_free X12.out.keep 2))
      (refine bodyPost_ret (v := .agg #[.int .u8 (f % 32), .int .u8 t, .slice o11 (unpadC (tkB L4 (4 * n))).1.length c11]) ?rr5 rfl ?_; (case rr5 => (simp [results, Try.results152, go_sem, c0, c1, c2])))
      exact hw3.out _ _ _ _ X12.out HRD.out T12.out (HUB.out b10.out) (fun g h => g10.out g (G11.out g h))
    · have hS4 := hS4.symm
      have hS5 := hS5.symm
      subst hS4 hS5
      go_enter Try.func152, Try.ntmps152
      go_wp2_with first | (go_at_call 88; ((with_reducible refine (RdByte_any X0.rd).mono ?_); rintro e w6 ⟨rfl, r6, a6⟩; have X6 := X0.step r6 a6; rw [hn1])) | (go_at_call 88; ((with_reducible refine (RdByte_any X6.rd).mono ?_); rintro e w7 ⟨rfl, r7, a7⟩; have X7 := X6.step r7 a7; rw [hn2])) | (go_at_call 89; ((with_reducible refine (RdShort_any X7.rd).mono ?_); rintro e w8 ⟨rfl, r8, a8⟩; have X8 := X7.step r8 a8; rw [hn3]; rw [hL3, hE3] at X8; have X9 := X8)) | (go_at_call 91; ((with_reducible refine (RdRaw_any (4 * n) X9.rd).mono ?_); rintro e w10 ⟨v10, rfl, ho, r10, a10⟩; have X10 := Lib.hid (X9.step r10 a10); have hl10 := tkB_len2 L4 (4 * n); have sm10 := X9.rd.small; have s10 := Lib.hid (SlI.of_owns ho (by omega)); have g10 : Hid (∀ g, v10.ownBlock = some g → w.heap.size + 1 ≤ g) := Lib.hid (fun g h => Nat.le_trans (Nat.lt_of_lt_of_le (blk_lt X9.keep) (Nat.le_refl _)) (owns_ge ho h)); have b10 := Lib.hid (tkB_byt X9.rd.byt (4 * n)); obtain ⟨o10, n10, c10, rfl, hz10⟩ := slice_of_row ho; clear ho hz10 hl10 sm10)) | (go_at_call 159; ((with_reducible refine (Unpad_any s10.out b10.out).mono ?_); rintro e w11 ⟨⟨v11, rfl, s11, g11⟩, rfl⟩; rw [hok]; have S11 := Lib.hid s11; have G11 := Lib.hid g11; obtain ⟨o11, c11, rfl, _⟩ := s11; clear g11)) | (go_at_call 90; ((with_reducible refine (RdWrong_any (s := (tkL L4 (4 * n), tkE L4 (4 * n) E4)) X10.out.rd 2).mono ?_); rintro e w12 ⟨rfl, r12, a12⟩; have X12 := Lib.hid (X10.out.step r12 a12); have T12 := Lib.hid (S11.out.off (fun b hb e => by have := g10.out b (G11.out b hb); omega) a12); have c0 := blk_cell X12.out.keep 0 (v := .int .u8 0) rfl; have c1 := blk_cell X12.out.keep 1 (v := .int .u8 0) rfl; have c2 := blk_cell X12.out.keep 2 (v := .slice none 0 0) rfl; have f0 := blk_free X12.out.keep 0; have f1 := blk_free X12.out.keep 1; have f2 := blk_free X12.out.keep 2))
      (refine bodyPost_ret (v := .agg #[.int .u8 (f % 32), .int .u8 t, .slice o11 (unpadC (tkB L4 (4 * n))).1.length c11]) ?rr6 rfl ?_; (case rr6 => (simp [results, Try.results152, go_sem, c0, c1, c2])))
      exact hw3.out _ _ _ _ X12.out HRD.out T12.out (HUB.out b10.out) (fun g h => g10.out g (G11.out g h))
  · rw [decide_eq_false hp, Bool.not_false] at h32
    have HRD := Lib.hid hread
    clear hread hp
    have hub := unpadC_byt (b := tkB L4 (4 * n))
    have HUB := Lib.hid hub
    clear hub
    have hlf2 : (0 : Int) < ((tkL L4 (4 * n)).length : Int) := by omega
    rcases hfw with ⟨h1, hS4⟩ | ⟨h1, h2, hS4⟩ | ⟨h1, h2, hS4, hS5⟩
    · go_enter Try.func152, Try.ntmps152
      go_wp2_with first | (go_at_call 88; ((with_reducible refine (RdByte_any X0.rd).mono ?_); rintro e w6 ⟨rfl, r6, a6⟩; have X6 := X0.step r6 a6; rw [hn1])) | (go_at_call 88; ((with_reducible refine (RdByte_any X6.rd).mono ?_); rintro e w7 ⟨rfl, r7, a7⟩; have X7 := X6.step r7 a7; rw [hn2])) | (go_at_call 89; ((with_reducible refine (RdShort_any X7.rd).mono ?_); rintro e w8 ⟨rfl, r8, a8⟩; have X8 := X7.step r8 a8; rw [hn3]; rw [hL3, hE3] at X8)) | (go_at_call 90; ((with_reducible refine (RdWrong_any (s := (L3, E3)) X8.rd 2).mono ?_); rintro e w9 ⟨rfl, r9, a9⟩; have X9 := X8.step r9 a9; rw [hS4] at X9; have X9 : RdK w w9 R L4 E4 w.heap.size (.cells #[.int .u8 0, .int .u8 0, .slice none 0 0] 30) (fun g => C g ∧ g < w.heap.size) := X9)) | (go_at_call 91; ((with_reducible refine (RdRaw_any (4 * n) X9.rd).mono ?_); rintro e w10 ⟨v10, rfl, ho, r10, a10⟩; have X10 := Lib.hid (X9.step r10 a10); have hl10 := tkB_len2 L4 (4 * n); have sm10 := X9.rd.small; have s10 := Lib.hid (SlI.of_owns ho (by omega)); have g10 : Hid (∀ g, v10.ownBlock = some g → w.heap.size + 1 ≤ g) := Lib.hid (fun g h => Nat.le_trans (Nat.lt_of_lt_of_le (blk_lt X9.keep) (Nat.le_refl _)) (owns_ge ho h)); have b10 := Lib.hid (tkB_byt X9.rd.byt (4 * n)); obtain ⟨o10, n10, c10, rfl, hz10⟩ := slice_of_row ho; clear ho hz10 hl10 sm10)) | (go_at_call 159; ((with_reducible refine (Unpad_any s10.out b10.out).mono ?_); rintro e w11 ⟨⟨v11, rfl, s11, g11⟩, rfl⟩; rw [hok]; have S11 := Lib.hid s11; have G11 := Lib.hid g11; obtain ⟨o11, c11, rfl, _⟩ := s11; clear g11)) | (go_at_call 92; ((with_reducible refine (RdLeft_any X10.out.rd).mono ?_); rintro e w13 ⟨rfl, rfl⟩)) | (go_at_call 90; ((with_reducible refine (RdWrong_any (s := (tkL L4 (4 * n), tkE L4 (4 * n) E4)) X10.out.rd 2).mono ?_); rintro e w12 ⟨rfl, r12, a12⟩; have X12 := Lib.hid (X10.out.step r12 a12); have T12 := Lib.hid (S11.out.off (fun b hb e => by have := g10.out b (G11.out b hb); omega) a12); have c0 := blk_cell X12.out.keep 0 (v := .int .u8 0) rfl; have c1 := blk_cell X12.out.keep 1 (v := .int .u8 0) rfl; have c2 := blk_cell X12.out.keep 2 (v := .slice none 0 0) rfl; have f0 := blk_free X12.out.keep 0; have f1 := blk_free X12.out.keep 1; have f2 := blk_free X12.out.keep 2))
      (refine bodyPost_ret (v := .agg #[.int .u8 (f % 32), .int .u8 t, .slice o11 (unpadC (tkB L4 (4 * n))).1.length c11]) ?rr7 rfl ?_; (case rr7 => (simp [results, Try.results152, go_sem, c0, c1, c2])))
      exact hw3.out _ _ _ _ X12.out HRD.out T12.out (HUB.out b10.out) (fun g h => g10.out g (G11.out g h))
    · go_enter Try.func152, Try.ntmps152
      go_wp2_with first | (go_at_call 88; ((with_reducible refine (RdByte_any X0.rd).mono ?_); rintro e w6 ⟨rfl, r6, a6⟩; have X6 := X0.step r6 a6; rw [hn1])) | (go_at_call 88; ((with_reducible refine (RdByte_any X6.rd).mono ?_); rintro e w7 ⟨rfl, r7, a7⟩; have X7 := X6.step r7 a7; rw [hn2])) | (go_at_call 89; ((with_reducible refine (RdShort_any X7.rd).mono ?_); rintro e w8 ⟨rfl, r8, a8⟩; have X8 := X7.step r8 a8; rw [hn3]; rw [hL3, hE3] at X8)) | (go_at_call 90; ((with_reducible refine (RdWrong_any (s := (L3, E3)) X8.rd 2).mono ?_); rintro e w9 ⟨rfl, r9, a9⟩; have X9 := X8.step r9 a9; rw [hS4] at X9; have X9 : RdK w w9 R L4 E4 w.heap.size (.cells #[.int .u8 0, .int .u8 0, .slice none 0 0] 30) (fun g => C g ∧ g < w.heap.size) := X9)) | (go_at_call 91; ((with_reducible refine (RdRaw_any (4 * n) X9.rd).mono ?_); rintro e w10 ⟨v10, rfl, ho, r10, a10⟩; have X10 := Lib.hid (X9.step r10 a10); have hl10 := tkB_len2 L4 (4 * n); have sm10 := X9.rd.small; have s10 := Lib.hid (SlI.of_owns ho (by omega)); have g10 : Hid (∀ g, v10.ownBlock = some g → w.heap.size + 1 ≤ g) := Lib.hid (fun g h => Nat.le_trans (Nat.lt_of_lt_of_le (blk_lt X9.keep) (Nat.le_refl _)) (owns_ge ho h)); have b10 := Lib.hid (tkB_byt X9.rd.byt (4 * n)); obtain ⟨o10, n10, c10, rfl, hz10⟩ := slice_of_row ho; clear ho hz10 hl10 sm10)) | (go_at_call 159; ((with_reducible refine (Unpad_any s10.out b10.out).mono ?_); rintro e w11 ⟨⟨v11, rfl, s11, g11⟩, rfl⟩; rw [hok]; have S11 := Lib.hid s11; have G11 := Lib.hid g11; obtain ⟨o11, c11, rfl, _⟩ := s11; clear g11)) | (go_at_call 92; ((with_reducible refine (RdLeft_any X10.out.rd).mono ?_); rintro e w13 ⟨rfl, rfl⟩)) | (go_at_call 90; ((with_reducible refine (RdWrong_any (s := (tkL L4 (4 * n), tkE L4 (4 * n) E4)) X10.out.rd 2).mono ?_); rintro e w12 ⟨rfl, r12, a12⟩; have X12 := Lib.hid (X10.out.step r12 a12); have T12 := Lib.hid (S11.out.off (fun b hb e => by have := g10.out b (G11.out b hb); omega) a12); have c0 := blk_cell X12.out.keep 0 (v := .int .u8 0) rfl; have c1 := blk_cell X12.out.keep 1 (v := .int .u8 0) rfl; have c2 := blk_cell X12.out.keep 2 (v := .slice none 0 0) rfl; have f0 := blk_free X12.out.keep 0; have f1 := blk_free X12.out.keep 1; have f2 := blk_free X12.out.keep 2))
      (refine bodyPost_ret (v := .agg #[.int .u8 (f % 32), .int .u8 t, .slice o11 (unpadC (tkB L4 (4 * n))).1.length c11]) ?rr8 rfl ?_; (case rr8 => (simp [results, Try.results152, go_sem, c0, c1, c2])))
      exact hw3.out _ _ _ _ X12.out HRD.out T12.out (HUB.out b10.out) (fun g h => g10.out g (G11.out g h))
    · have hS4 := hS4.symm
      have hS5 := hS5.symm
      subst hS4 hS5
      go_enter Try.func152, Try.ntmps152
      go_wp2_with first | (go_at_call 88; ((with_reducible refine (RdByte_any X0.rd).mono ?_); rintro e w6 ⟨rfl, r6, a6⟩; have X6 := X0.step r6 a6; rw [hn1])) | (go_at_call 88; ((with_reducible refine (RdByte_any X6.rd).mono ?_); rintro e w7 ⟨rfl, r7, a7⟩; have X7 := X6.step r7 a7; rw [hn2])) | (go_at_call 89; ((with_reducible refine (RdShort_any X7.rd).mono ?_); rintro e w8 ⟨rfl, r8, a8⟩; have X8 := X7.step r8 a8; rw [hn3]; rw [hL3, hE3] at X8; have X9 := X8)) | (go_at_call 91; ((with_reducible refine (RdRaw_any (4 * n) X9.rd).mono ?_); rintro e w10 ⟨v10, rfl, ho, r10, a10⟩; have X10 := Lib.hid (X9.step r10 a10); have hl10 := tkB_len2 L4 (4 * n); have sm10 := X9.rd.small; have s10 := Lib.hid (SlI.of_owns ho (by omega)); have g10 : Hid (∀ g, v10.ownBlock = some g → w.heap.size + 1 ≤ g) := Lib.hid (fun g h => Nat.le_trans (Nat.lt_of_lt_of_le (blk_lt X9.keep) (Nat.le_refl _)) (owns_ge ho h)); have b10 := Lib.hid (tkB_byt X9.rd.byt (4 * n)); obtain ⟨o10, n10, c10, rfl, hz10⟩ := slice_of_row ho; clear ho hz10 hl10 sm10)) | (go_at_call 159; ((with_reducible refine (Unpad_any s10.out b10.out).mono ?_); rintro e w11 ⟨⟨v11, rfl, s11, g11⟩, rfl⟩; rw [hok]; have S11 := Lib.hid s11; have G11 := Lib.hid g11; obtain ⟨o11, c11, rfl, _⟩ := s11; clear g11)) | (go_at_call 92; ((with_reducible refine (RdLeft_any X10.out.rd).mono ?_); rintro e w13 ⟨rfl, rfl⟩)) | (go_at_call 90; ((with_reducible refine (RdWrong_any (s := (tkL L4 (4 * n), tkE L4 (4 * n) E4)) X10.out.rd 2).mono ?_); rintro e w12 ⟨rfl, r12, a12⟩; have X12 := Lib.hid (X10.out.step r12 a12); have T12 := Lib.hid (S11.out.off (fun b hb e => by have := g10.out b (G11.out b hb); omega) a12); have c0 := blk_cell X12.out.keep 0 (v := .int .u8 0) rfl; have c1 := blk_cell X12.out.keep 1 (v := .int .u8 0) rfl; have c2 := blk_cell X12.out.keep 2 (v := .slice none 0 0) rfl; have f0 := blk_free X12.out.keep 0; have f1 := blk_free X12.out.keep 1; have f2 := blk_free X12.out.keep 2))
      (refine bodyPost_ret (v := .agg #[.int .u8 (f % 32), .int .u8 t, .slice o11 (unpadC (tkB L4 (4 * n))).1.length c11]) ?rr9 rfl ?_; (case rr9 => (simp [results, Try.results152, go_sem, c0, c1, c2])))
      exact hw3.out _ _ _ _ X12.out HRD.out T12.out (HUB.out b10.out) (fun g h => g10.out g (G11.out g h))
  · rw [decide_eq_false hp, Bool.not_false] at h32
    have HRD := Lib.hid hread
    clear hread hp
    have hub := unpadC_byt (b := tkB L4 (4 * n))
    have HUB := Lib.hid hub
    clear hub
    have hlf2 : ((tkL L4 (4 * n)).length : Int) = 0 := by omega
    rcases hfw with ⟨h1, hS4⟩ | ⟨h1, h2, hS4⟩ | ⟨h1, h2, hS4, hS5⟩
    · go_enter Try.func152, Try.ntmps152
      go_wp2_with first | (go_at_call 88; ((with_reducible refine (RdByte_any X0.rd).mono ?_); rintro e w6 ⟨rfl, r6, a6⟩; have X6 := X0.step r6 a6; rw [hn1])) | (go_at_call 88; ((with_reducible refine (RdByte_any X6.rd).mono ?_); rintro e w7 ⟨rfl, r7, a7⟩; have X7 := X6.step r7 a7; rw [hn2])) | (go_at_call 89; ((with_reducible refine (RdShort_any X7.rd).mono ?_); rintro e w8 ⟨rfl, r8, a8⟩; have X8 := X7.step r8 a8; rw [hn3]; rw [hL3, hE3] at X8)) | (go_at_call 90; ((with_reducible refine (RdWrong_any (s := (L3, E3)) X8.rd 2).mono ?_); rintro e w9 ⟨rfl, r9, a9⟩; have X9 := X8.step r9 a9; rw [hS4] at X9; have X9 : RdK w w9 R L4 E4 w.heap.size (.cells #[.int .u8 0, .int .u8 0, .slice none 0 0] 30) (fun g => C g ∧ g < w.heap.size) := X9)) | (go_at_call 91; ((with_reducible refine (RdRaw_any (4 * n) X9.rd).mono ?_); rintro e w10 ⟨v10, rfl, ho, r10, a10⟩; have X10 := Lib.hid (X9.step r10 a10); have hl10 := tkB_len2 L4 (4 * n); have sm10 := X9.rd.small; have s10 := Lib.hid (SlI.of_owns ho (by omega)); have g10 : Hid (∀ g, v10.ownBlock = some g → w.heap.size + 1 ≤ g) := Lib.hid (fun g h => Nat.le_trans (Nat.lt_of_lt_of_le (blk_lt X9.keep) (Nat.le_refl _)) (owns_ge ho h)); have b10 := Lib.hid (tkB_byt X9.rd.byt (4 * n)); obtain ⟨o10, n10, c10, rfl, hz10⟩ := slice_of_row ho; clear ho hz10 hl10 sm10)) | (go_at_call 159; ((with_reducible refine (Unpad_any s10.out b10.out).mono ?_); rintro e w11 ⟨⟨v11, rfl, s11, g11⟩, rfl⟩; rw [hok]; have S11 := Lib.hid s11; have G11 := Lib.hid g11; obtain ⟨o11, c11, rfl, _⟩ := s11; clear g11; have c0 := blk_cell X10.out.keep 0 (v := .int .u8 0) rfl; have c1 := blk_cell X10.out.keep 1 (v := .int .u8 0) rfl; have c2 := blk_cell X10.out.keep 2 (v := .slice none 0 0) rfl; have f0 := blk_free X10.out.keep 0; have f1 := blk_free X10.out.keep 1; have f2 := blk_free X10.out.keep 2)) | (go_at_call 92; ((with_reducible refine (RdLeft_any X10.out.rd).mono ?_); rintro e w13 ⟨rfl, rfl⟩))
      (refine bodyPost_ret (v := .agg #[.int .u8 (f % 32), .int .u8 t, .slice o11 (unpadC (tkB L4 (4 * n))).1.length c11]) ?rr10 rfl ?_; (case rr10 => (simp [results, Try.results152, go_sem, c0, c1, c2])))
      exact hw3.out _ _ _ _ X10.out HRD.out S11.out (HUB.out b10.out) (fun g h => g10.out g (G11.out g h))
    · go_enter Try.func152, Try.ntmps152
      go_wp2_with first | (go_at_call 88; ((with_reducible refine (RdByte_any X0.rd).mono ?_); rintro e w6 ⟨rfl, r6, a6⟩; have X6 := X0.step r6 a6; rw [hn1])) | (go_at_call 88; ((with_reducible refine (RdByte_any X6.rd).mono ?_); rintro e w7 ⟨rfl, r7, a7⟩; have X7 := X6.step r7 a7; rw [hn2])) | (go_at_call 89; ((with_reducible refine (RdShort_any X7.rd).mono ?_); rintro e w8 ⟨rfl, r8, a8⟩; have X8 := X7.step r8 a8; rw [hn3]; rw [hL3, hE3] at X8)) | (go_at_call 90; ((with_reducible refine (RdWrong_any (s := (L3, E3)) X8.rd 2).mono ?_); rintro e w9 ⟨rfl, r9, a9⟩; have X9 := X8.step r9 a9; rw [hS4] at X9; have X9 : RdK w w9 R L4 E4 w.heap.size (.cells #[.int .u8 0, .int .u8 0, .slice none 0 0] 30) (fun g => C g ∧ g < w.heap.size) := X9)) | (go_at_call 91; ((with_reducible refine (RdRaw_any (4 * n) X9.rd).mono ?_); rintro e w10 ⟨v10, rfl, ho, r10, a10⟩; have X10 := Lib.hid (X9.step r10 a10); have hl10 := tkB_len2 L4 (4 * n); have sm10 := X9.rd.small; have s10 := Lib.hid (SlI.of_owns ho (by omega)); have g10 : Hid (∀ g, v10.ownBlock = some g → w.heap.size + 1 ≤ g) := Lib.hid (fun g h => Nat.le_trans (Nat.lt_of_lt_of_le (blk_lt X9.keep) (Nat.le_refl _)) (owns_ge ho h)); have b10 := Lib.hid (tkB_byt X9.rd.byt (4 * n)); obtain ⟨o10, n10, c10, rfl, hz10⟩ := slice_of_row ho; clear ho hz10 hl10 sm10)) | (go_at_call 159; ((with_reducible refine (Unpad_any s10.out b10.out).mono ?_); rintro e w11 ⟨⟨v11, rfl, s11, g11⟩, rfl⟩; rw [hok]; have S11 := Lib.hid s11; have G11 := Lib.hid g11; obtain ⟨o11, c11, rfl, _⟩ := s11; clear g11; have c0 := blk_cell X10.out.keep 0 (v := .int .u8 0) rfl; have c1 := blk_cell X10.out.keep 1 (v := .int .u8 0) rfl; have c2 := blk_cell X10.out.keep 2 (v := .slice none 0 0) rfl; have f0 := blk_free X10.out.keep 0; have f1 := blk_free X10.out.keep 1; have f2 := blk_free X10.out.keep 2)) | (go_at_call 92; ((with_reducible refine (RdLeft_any X10.out.rd).mono ?_); rintro e w13 ⟨rfl, rfl⟩))
      (refine bodyPost_ret (v := .agg #[.int .u8 (f % 32), .int .u8 t, .slice o11 (unpadC (tkB L4 (4 * n))).1.length c11]) ?rr11 rfl ?_; (case rr11 => (simp [results, Try.results152, go_sem, c0, c1, c2])))
      exact hw3.out _ _ _ _ X10.out HRD.out S11.out (HUB.out b10.out) (fun g h => g10.out g (G11.out g h))
    · have hS4 := hS4.symm
      have hS5 := hS5.symm
      subst hS4 hS5
      go_enter Try.func152, Try.ntmps152
      go_wp2_with first | (go_at_call 88; ((with_reducible refine (RdByte_any X0.rd).mono ?_); rintro e w6 ⟨rfl, r6, a6⟩; have X6 := X0.step r6 a6; rw [hn1])) | (go_at_call 88; ((with_reducible refine (RdByte_any X6.rd).mono ?_); rintro e w7 ⟨rfl, r7, a7⟩; have X7 := X6.step r7 a7; rw [hn2])) | (go_at_call 89; ((with_reducible refine (RdShort_any X7.rd).mono ?_); rintro e w8 ⟨rfl, r8, a8⟩; have X8 := X7.step r8 a8; rw [hn3]; rw [hL3, hE3] at X8; have X9 := X8)) | (go_at_call 91; ((with_reducible refine (RdRaw_any (4 * n) X9.rd).mono ?_); rintro e w10 ⟨v10, rfl, ho, r10, a10⟩; have X10 := Lib.hid (X9.step r10 a10); have hl10 := tkB_len2 L4 (4 * n); have sm10 := X9.rd.small; have s10 := Lib.hid (SlI.of_owns ho (by omega)); have g10 : Hid (∀ g, v10.ownBlock = some g → w.heap.size + 1 ≤ g) := Lib.hid (fun g h => Nat.le_trans (Nat.lt_of_lt_of_le (blk_lt X9.keep) (Nat.le_refl _)) (owns_ge ho h)); have b10 := Lib.hid (tkB_byt X9.rd.byt (4 * n)); obtain ⟨o10, n10, c10, rfl, hz10⟩ := slice_of_row ho; clear ho hz10 hl10 sm10)) | (go_at_call 159; ((with_reducible refine (Unpad_any s10.out b10.out).mono ?_); rintro e w11 ⟨⟨v11, rfl, s11, g11⟩, rfl⟩; rw [hok]; have S11 := Lib.hid s11; have G11 := Lib.hid g11; obtain ⟨o11, c11, rfl, _⟩ := s11; clear g11; have c0 := blk_cell X10.out.keep 0 (v := .int .u8 0) rfl; have c1 := blk_cell X10.out.keep 1 (v := .int .u8 0) rfl; have c2 := blk_cell X10.out.keep 2 (v := .slice none 0 0) rfl; have f0 := blk_free X10.out.keep 0; have f1 := blk_free X10.out.keep 1; have f2 := blk_free X10.out.keep 2)) | (go_at_call 92; ((with_reducible refine (RdLeft_any X10.out.rd).mono ?_); rintro e w13 ⟨rfl, rfl⟩))
      (refine bodyPost_ret (v := .agg #[.int .u8 (f % 32), .int .u8 t, .slice o11 (unpadC (tkB L4 (4 * n))).1.length c11]) ?rr12 rfl ?_; (case rr12 => (simp [results, Try.results152, go_sem, c0, c1, c2])))
      exact hw3.out _ _ _ _ X10.out HRD.out S11.out (HUB.out b10.out) (fun g h => g10.out g (G11.out g h))
end Go.Proofs.Ytlnikmcimmnbmaa
