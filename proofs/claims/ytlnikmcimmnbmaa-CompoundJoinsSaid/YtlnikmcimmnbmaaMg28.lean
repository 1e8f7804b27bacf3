/- Merged from my texts FeedI. -/
import Derived.Test.YtlnikmcimmnbmaaMg23
import Derived.Test.YtlnikmcimmnbmaaMg27
/- Feedback messages: Read. -/
namespace Go.Proofs.Ytlnikmcimmnbmaa
set_option linter.unusedSimpArgs false
set_option linter.unusedVariables false
open Go.RowKit
set_option maxRecDepth 100000

theorem st5_blk {w : World} {b : Nat} {t : TypeId} {a0 a1 a2 a3 a4 : Value} (h : w.heap[b]? = some (.cells #[a0, a1, a2, a3, a4] t (0, 0))) (v0 v1 v2 v3 v4 : Value) : (((((w.setCell ⟨b, 0, none⟩ v0).setCell ⟨b, 1, none⟩ v1).setCell ⟨b, 2, none⟩ v2).setCell ⟨b, 3, none⟩ v3).setCell ⟨b, 4, none⟩ v4).heap[b]? = some (.cells #[v0, v1, v2, v3, v4] t (0, 0)) := by
  have h := blk_eq (cs' := #[v0, a1, a2, a3, a4]) (blk_set h 0 v0) rfl
  have h := blk_eq (cs' := #[v0, v1, a2, a3, a4]) (blk_set h 1 v1) rfl
  have h := blk_eq (cs' := #[v0, v1, v2, a3, a4]) (blk_set h 2 v2) rfl
  have h := blk_eq (cs' := #[v0, v1, v2, v3, a4]) (blk_set h 3 v3) rfl
  exact blk_eq (blk_set h 4 v4) rfl
theorem Away.st5 (w : World) (b : Nat) (v0 v1 v2 v3 v4 : Value) : Away (fun k => k = b) w (((((w.setCell ⟨b, 0, none⟩ v0).setCell ⟨b, 1, none⟩ v1).setCell ⟨b, 2, none⟩ v2).setCell ⟨b, 3, none⟩ v3).setCell ⟨b, 4, none⟩ v4) := ((((((Away.refl (fun k => k = b) w).cons 0 v0).cons 1 v1).cons 2 v2).cons 3 v3).cons 4 v4)
theorem cells5 {w : World} {b : Nat} {t : TypeId} {a0 a1 a2 a3 a4 : Value} (h : w.heap[b]? = some (.cells #[a0, a1, a2, a3, a4] t (0, 0))) :
    w.cell? ⟨b, 0, none⟩ = some a0 ∧ w.cell? ⟨b, 1, none⟩ = some a1 ∧ w.cell? ⟨b, 2, none⟩ = some a2 ∧ w.cell? ⟨b, 3, none⟩ = some a3 ∧ w.cell? ⟨b, 4, none⟩ = some a4 :=
  ⟨blk_cell h 0 rfl, blk_cell h 1 rfl, blk_cell h 2 rfl, blk_cell h 3 rfl, blk_cell h 4 rfl⟩
theorem free5 {w : World} {b : Nat} {cs : Array Value} {t : TypeId} (h : w.heap[b]? = some (.cells cs t (0, 0))) :
    w.frozen? ⟨b, 0, none⟩ = false ∧ w.frozen? ⟨b, 1, none⟩ = false ∧ w.frozen? ⟨b, 2, none⟩ = false ∧ w.frozen? ⟨b, 3, none⟩ = false ∧ w.frozen? ⟨b, 4, none⟩ = false :=
  ⟨blk_free h 0, blk_free h 1, blk_free h 2, blk_free h 3, blk_free h 4⟩
theorem slA_off {S : Nat → Prop} {w w' : World} {v : Value} {l : List (Int × Int)} (h : SlP 2 RAsk w v l) (hb : ∀ b, v.ownBlock = some b → ¬ S b) (a : Away S w w') : SlP 2 RAsk w' v l := by
  obtain ⟨oa, cap, rfl, h2, h3, h4⟩ := h
  refine ⟨oa, cap, rfl, h2, fun i hi => ?_, h4⟩
  obtain ⟨b, off, cs, rfl, hlt, hl, hc, hr⟩ := h3 i hi
  exact ⟨b, off, cs, rfl, Nat.lt_of_lt_of_le hlt a.size, hl, fun j hj => by rw [a.cells b _ hlt (hb b rfl)]; exact hc j hj, hr⟩
/-- A reader, and the message that is being read. -/
structure MdJ (w0 w : World) (R Bm : Nat) (C : Nat → Prop) (o0 o1 : Obj) (cs : Array Value) (s : RdS) : Prop where
  rd : ReaderAt w R s.1 s.2 C
  b0 : w.heap[w0.heap.size]? = some o0
  b1 : w.heap[w0.heap.size + 1]? = some o1
  bm : w.heap[Bm]? = some (.cells cs 85 (0, 0))
  more : More w0 w
  h1 : w0.heap.size + 1 < Bm
  h2 : Bm < R
  hC : ∀ g, C g → Bm < g
section
variable {w0 w w' : World} {R Bm : Nat} {C : Nat → Prop} {o0 o1 : Obj} {cs : Array Value} {s s' : RdS}
theorem MdJ.read (h : MdJ w0 w R Bm C o0 o1 cs s) (r : ReaderAt w' R s'.1 s'.2 C) (a : Away (fun b => b = R) w w') : MdJ w0 w' R Bm C o0 o1 cs s' := by
  have h1 := h.h1
  have h2 := h.h2
  exact ⟨r, a.blk h.b0 (by omega), a.blk h.b1 (by omega), a.blk h.bm (by omega), rd_more a h.more (by omega), h1, h2, h.hC⟩
theorem MdJ.set (h : MdJ w0 w R Bm C o0 o1 cs s) (i : Nat) (x : Value) : MdJ w0 (w.setCell ⟨Bm, i, none⟩ x) R Bm C o0 o1 (cs.setIfInBounds i x) s := by
  have h1 := h.h1
  have h2 := h.h2
  have a : Away (fun b => b = Bm) w (w.setCell ⟨Bm, i, none⟩ x) := (Away.refl (fun b => b = Bm) w).set (p := ⟨Bm, i, none⟩) rfl x
  exact ⟨h.rd.off a (by omega) (fun g hc e => by have := h.hC g hc; omega), a.blk h.b0 (by omega), a.blk h.b1 (by omega), blk_set h.bm i x, Away.to_more h.more a (fun k hk => by omega), h1, h2, h.hC⟩
theorem MdJ.eq {cs' : Array Value} (h : MdJ w0 w R Bm C o0 o1 cs s) (e : cs = cs') : MdJ w0 w R Bm C o0 o1 cs' s := e ▸ h
end
theorem restM_1 (a b : Int) (s : RdS) : restM 1 a b s = doneM ⟨1, a, b, [], []⟩ s := by unfold restM; rw [if_neg (by decide), if_neg (by decide)]
theorem restM_2 (a b : Int) (s : RdS) : restM 2 a b s = doneM ⟨2, a, b, (readAsksF s.1.length [] (asksS b s)).1, []⟩ (readAsksF s.1.length [] (asksS b s)).2 := by unfold restM; rw [if_pos rfl]
theorem restM_3 (a b : Int) (s : RdS) : restM 3 a b s = doneM ⟨3, a, b, [], (readLostF s.1.length [] (lostS s)).1⟩ (readLostF s.1.length [] (lostS s)).2 := by unfold restM; rw [if_neg (by decide), if_pos rfl]
theorem asksS_len (b : Int) (s : RdS) : (asksS b s).1.length ≤ s.1.length := by
  unfold asksS; split
  · exact wrS_len s 2
  · exact Nat.le_refl _
/-- More fuel changes nothing. -/
theorem readAsksF_more : ∀ (n m : Nat) (acc : List (Int × Int)) (s : RdS), s.1.length ≤ n → n ≤ m → readAsksF m acc s = readAsksF n acc s
  | 0, m, acc, s, h, _ => by
    obtain ⟨l, e⟩ := s
    obtain rfl : l = [] := List.eq_nil_of_length_eq_zero (by simpa using h)
    rw [readAsksF_nil]; rfl
  | n + 1, m, acc, s, h, hm => by
    obtain ⟨m, rfl⟩ : ∃ k, m = k + 1 := ⟨m - 1, by omega⟩
    by_cases hs : s.1 = []
    · obtain ⟨l, e⟩ := s
      simp only at hs
      subst hs
      rw [readAsksF_nil, readAsksF_nil]
    · rw [readAsksF_step hs, readAsksF_step hs]
      exact readAsksF_more n m _ _ (by have := askS_len hs; omega) (by omega)
set_option maxHeartbeats 2000000 in
theorem Read09_no {w : World} (n t : Int) (B : List Int) (ob : Option Addr) (cb : Nat) (SL : Hid (SlI .u8 w (.slice ob B.length cb) B)) (hl : B.length ≤ 1000000) (HR : Hid (rightB (n, t, B, ()) = false)) :
    Calls Try.prog 44 #[.agg #[.int .u8 n, .int .u8 t, .slice ob B.length cb]] w fun e w' => e = .returned (.tuple #[.agg #[.int .i64 0, .int .u32 0, .int .u32 0, .slice none 0 0, .slice none 0 0], .int .i64 1]) ∧ More w w' := by
  have HRT := Lib.hid (Right07_any (w := (w.alloc (.cells #[.int .u8 n, .int .u8 t, .slice ob B.length cb] 30)).alloc (.cells #[.int .i64 0, .int .u32 0, .int .u32 0, .slice none 0 0, .slice none 0 0] 85)) (n, t, B, ()) (SL.out.keep ((More.alloc _ _).al _)) hl)
  have B0 := Lib.hid (blk_new2 (w := w.alloc (.cells #[.int .u8 n, .int .u8 t, .slice ob B.length cb] 30)) (n := w.heap.size + 1) (o := (.cells #[.int .i64 0, .int .u32 0, .int .u32 0, .slice none 0 0, .slice none 0 0] 85)) (by simp))
  go_enter Try.func44, Try.ntmps44
  go_wp2_with (go_at_call 49; ((with_reducible refine (HRT.out).mono ?_); rintro e w3 ⟨rfl, m3⟩; rw [HR.out]; have B3 := Lib.hid (blk_more m3 B0.out); have M3 := Lib.hid (((More.alloc w (.cells #[.int .u8 n, .int .u8 t, .slice ob B.length cb] 30)).al (.cells #[.int .i64 0, .int .u32 0, .int .u32 0, .slice none 0 0, .slice none 0 0] 85)).trans m3); clear m3; obtain ⟨g0, g1, g2, g3, g4⟩ := cells5 B3.out; obtain ⟨f0, f1, f2, f3, f4⟩ := free5 B3.out))
  have fin := st5_blk B3.out (.int .i64 0) (.int .u32 0) (.int .u32 0) (.slice none 0 0) (.slice none 0 0)
  have a5 := Away.st5 w3 (w.heap.size + 1) (.int .i64 0) (.int .u32 0) (.int .u32 0) (.slice none 0 0) (.slice none 0 0)
  have mf := Away.to_more M3.out a5 (fun b e => by omega)
  obtain ⟨WF, hWF⟩ : ∃ WF, (((((w3.setCell ⟨w.heap.size + 1, 0, none⟩ (.int .i64 0)).setCell ⟨w.heap.size + 1, 1, none⟩ (.int .u32 0)).setCell ⟨w.heap.size + 1, 2, none⟩ (.int .u32 0)).setCell ⟨w.heap.size + 1, 3, none⟩ (.slice none 0 0)).setCell ⟨w.heap.size + 1, 4, none⟩ (.slice none 0 0)) = WF := ⟨_, rfl⟩
  rw [hWF] at fin mf ⊢ a5
  clear hWF
  obtain ⟨r0, r1, r2, r3, r4⟩ := cells5 fin
  (refine bodyPost_ret (v := .tuple #[.agg #[.int .i64 0, .int .u32 0, .int .u32 0, .slice none 0 0, .slice none 0 0], .int .i64 1]) ?rr1 rfl ?_; (case rr1 => (simp [results, Try.results44, go_sem, r0, r1, r2, r3, r4])))
  exact ⟨rfl, mf⟩
set_option maxHeartbeats 2000000 in
theorem Read09_none {w : World} (n t : Int) (B : List Int) (ob : Option Addr) (cb : Nat) (SL : Hid (SlI .u8 w (.slice ob B.length cb) B)) (hl : B.length ≤ 1000000) (HR : Hid (rightB (n, t, B, ()) = true)) (HK : Hid (kindC (n, t, B, ()) = 0)) :
    Calls Try.prog 44 #[.agg #[.int .u8 n, .int .u8 t, .slice ob B.length cb]] w fun e w' => e = .returned (.tuple #[.agg #[.int .i64 0, .int .u32 0, .int .u32 0, .slice none 0 0, .slice none 0 0], .int .i64 5]) ∧ More w w' := by
  have HRT := Lib.hid (Right07_any (w := (w.alloc (.cells #[.int .u8 n, .int .u8 t, .slice ob B.length cb] 30)).alloc (.cells #[.int .i64 0, .int .u32 0, .int .u32 0, .slice none 0 0, .slice none 0 0] 85)) (n, t, B, ()) (SL.out.keep ((More.alloc _ _).al _)) hl)
  have A0 := Lib.hid (blk_alloc (blk_new w (.cells #[.int .u8 n, .int .u8 t, .slice ob B.length cb] 30)) (.cells #[.int .i64 0, .int .u32 0, .int .u32 0, .slice none 0 0, .slice none 0 0] 85))
  have B0 := Lib.hid (blk_new2 (w := w.alloc (.cells #[.int .u8 n, .int .u8 t, .slice ob B.length cb] 30)) (n := w.heap.size + 1) (o := (.cells #[.int .i64 0, .int .u32 0, .int .u32 0, .slice none 0 0, .slice none 0 0] 85)) (by simp))
  go_enter Try.func44, Try.ntmps44
  go_wp2_with (first | (go_at_call 49; ((with_reducible refine (HRT.out).mono ?_); rintro e w3 ⟨rfl, m3⟩; rw [HR.out]; have A3 := Lib.hid (blk_more m3 A0.out); have B3 := Lib.hid (blk_more m3 B0.out); have M3 := Lib.hid (((More.alloc w (.cells #[.int .u8 n, .int .u8 t, .slice ob B.length cb] 30)).al (.cells #[.int .i64 0, .int .u32 0, .int .u32 0, .slice none 0 0, .slice none 0 0] 85)).trans m3); clear m3; have x0 := blk_cell A3.out 0 (v := .int .u8 n) rfl; have x1 := blk_cell A3.out 1 (v := .int .u8 t) rfl; have x2 := blk_cell A3.out 2 (v := .slice ob B.length cb) rfl)) | (go_at_call 106; ((with_reducible refine (KindOf_any n t B ob cb _).mono ?_); rintro e w4 ⟨rfl, m4⟩; rw [HK.out]; have B5 := Lib.hid (blk_alloc (blk_more m4 B3.out) (.cells #[.int .i64 0, .int .u32 0, .int .u32 0, .slice none 0 0, .slice none 0 0] 85)); have M5 := Lib.hid ((M3.out.trans m4).al (.cells #[.int .i64 0, .int .u32 0, .int .u32 0, .slice none 0 0, .slice none 0 0] 85)); clear m4 x0 x1 x2; obtain ⟨g0, g1, g2, g3, g4⟩ := cells5 B5.out; obtain ⟨f0, f1, f2, f3, f4⟩ := free5 B5.out)))
  generalize w4.alloc (.cells #[.int .i64 0, .int .u32 0, .int .u32 0, .slice none 0 0, .slice none 0 0] 85) = w5 at *
  have fin := st5_blk B5.out (.int .i64 0) (.int .u32 0) (.int .u32 0) (.slice none 0 0) (.slice none 0 0)
  have a5 := Away.st5 w5 (w.heap.size + 1) (.int .i64 0) (.int .u32 0) (.int .u32 0) (.slice none 0 0) (.slice none 0 0)
  have mf := Away.to_more M5.out a5 (fun b e => by omega)
  obtain ⟨WF, hWF⟩ : ∃ WF, (((((w5.setCell ⟨w.heap.size + 1, 0, none⟩ (.int .i64 0)).setCell ⟨w.heap.size + 1, 1, none⟩ (.int .u32 0)).setCell ⟨w.heap.size + 1, 2, none⟩ (.int .u32 0)).setCell ⟨w.heap.size + 1, 3, none⟩ (.slice none 0 0)).setCell ⟨w.heap.size + 1, 4, none⟩ (.slice none 0 0)) = WF := ⟨_, rfl⟩
  rw [hWF] at fin mf ⊢ a5
  clear hWF
  obtain ⟨r0, r1, r2, r3, r4⟩ := cells5 fin
  (refine bodyPost_ret (v := .tuple #[.agg #[.int .i64 0, .int .u32 0, .int .u32 0, .slice none 0 0, .slice none 0 0], .int .i64 5]) ?rr2 rfl ?_; (case rr2 => (simp [results, Try.results44, go_sem, r0, r1, r2, r3, r4])))
  exact ⟨rfl, mf⟩
set_option maxHeartbeats 8000000 in
theorem Read09_1 {w : World} (n t : Int) (B : List Int) (ob : Option Addr) (cb : Nat) (D : Msg × Int) (SL : Hid (SlI .u8 w (.slice ob B.length cb) B)) (HB : Hid (Byt B)) (hl : B.length ≤ 1000000) (HR : Hid (rightB (n, t, B, ()) = true)) (HK : Hid (kindC (n, t, B, ()) = 1))
    (HD : Hid (restM 1 (rdNum (B, 0)) (rdNum (tkS (B, 0) 4)) (tkS (tkS (B, 0) 4) 4) = D)) :
    Calls Try.prog 44 #[.agg #[.int .u8 n, .int .u8 t, .slice ob B.length cb]] w fun e w' => (∃ va vl, e = .returned (.tuple #[.agg #[.int .i64 D.1.kind, .int .u32 D.1.snd, .int .u32 D.1.med, va, vl], .int .i64 D.2]) ∧ MsgS w' va vl D.1 ∧ NewB w va ∧ NewB w vl) ∧ More w w' := by
  have HRT := Lib.hid (Right07_any (w := (w.alloc (.cells #[.int .u8 n, .int .u8 t, .slice ob B.length cb] 30)).alloc (.cells #[.int .i64 0, .int .u32 0, .int .u32 0, .slice none 0 0, .slice none 0 0] 85)) (n, t, B, ()) (SL.out.keep ((More.alloc _ _).al _)) hl)
  have A0 := Lib.hid (blk_alloc (blk_new w (.cells #[.int .u8 n, .int .u8 t, .slice ob B.length cb] 30)) (.cells #[.int .i64 0, .int .u32 0, .int .u32 0, .slice none 0 0, .slice none 0 0] 85))
  have B0 := Lib.hid (blk_new2 (w := w.alloc (.cells #[.int .u8 n, .int .u8 t, .slice ob B.length cb] 30)) (n := w.heap.size + 1) (o := (.cells #[.int .i64 0, .int .u32 0, .int .u32 0, .slice none 0 0, .slice none 0 0] 85)) (by simp))
  obtain ⟨N1, hN1⟩ : ∃ x, num (tkB B 4) = x := ⟨_, rfl⟩
  obtain ⟨N2, hN2⟩ : ∃ x, num (tkB (tkS (B, 0) 4).1 4) = x := ⟨_, rfl⟩
  obtain ⟨S2, hS2⟩ : ∃ x, tkS (tkS (B, 0) 4) 4 = x := ⟨_, rfl⟩
  have HD2 : Hid (restM 1 N1 N2 S2 = D) := Lib.hid (by rw [← hN1, ← hN2, ← hS2]; exact HD.out)
  have HN1 := Lib.hid hN1
  have HN2 := Lib.hid hN2
  have HS2 := Lib.hid hS2
  have hn2 : 0 ≤ N2 := by
    have := num_u32 (s := tkS (B, 0) 4) (tkS_byt (s := (B, 0)) HB.out 4)
    rw [← hN2]; exact this.1
  clear hN1 hN2 hS2 HD
  go_enter Try.func44, Try.ntmps44
  go_wp2_with (first | (go_at_call 49; ((with_reducible refine (HRT.out).mono ?_); rintro e w3 ⟨rfl, m3⟩; rw [HR.out]; have A3 := Lib.hid (blk_more m3 A0.out); have B3 := Lib.hid (blk_more m3 B0.out); have M3 := Lib.hid (((More.alloc w (.cells #[.int .u8 n, .int .u8 t, .slice ob B.length cb] 30)).al (.cells #[.int .i64 0, .int .u32 0, .int .u32 0, .slice none 0 0, .slice none 0 0] 85)).trans m3); clear m3; have x0 := blk_cell A3.out 0 (v := .int .u8 n) rfl; have x1 := blk_cell A3.out 1 (v := .int .u8 t) rfl; have x2 := blk_cell A3.out 2 (v := .slice ob B.length cb) rfl)) | (go_at_call 106; ((with_reducible refine (KindOf_any n t B ob cb _).mono ?_); rintro e w4 ⟨rfl, m4⟩; rw [HK.out]; have A5 := Lib.hid (blk_alloc (blk_more m4 A3.out) (.cells #[.int .i64 1, .int .u32 0, .int .u32 0, .slice none 0 0, .slice none 0 0] 85)); have B5 := Lib.hid (blk_alloc (blk_more m4 B3.out) (.cells #[.int .i64 1, .int .u32 0, .int .u32 0, .slice none 0 0, .slice none 0 0] 85)); have M5 := Lib.hid ((M3.out.trans m4).al (.cells #[.int .i64 1, .int .u32 0, .int .u32 0, .slice none 0 0, .slice none 0 0] 85)); have C5 := Lib.hid (blk_new w4 (.cells #[.int .i64 1, .int .u32 0, .int .u32 0, .slice none 0 0, .slice none 0 0] 85)); have h45 := Lib.hid (Nat.lt_of_lt_of_le (blk_lt B3.out) m4.size); clear m4 x0 x1 x2; have x2 := blk_cell A5.out 2 (v := .slice ob B.length cb) rfl)) | (go_at_call 77; ((with_reducible refine (RdNew_in _ B _ (SL.out.keep M5.out) HB.out hl).mono ?_); rintro e w6 ⟨R, rfl, hR, r6, m6⟩; have J6 : Hid (MdJ w w6 R w4.heap.size (fun g => (w4.alloc (.cells #[.int .i64 1, .int .u32 0, .int .u32 0, .slice none 0 0, .slice none 0 0] 85)).heap.size ≤ g ∧ g < w6.heap.size) (.cells #[.int .u8 n, .int .u8 t, .slice ob B.length cb] 30) (.cells #[.int .i64 0, .int .u32 0, .int .u32 0, .slice none 0 0, .slice none 0 0] 85) #[.int .i64 1, .int .u32 0, .int .u32 0, .slice none 0 0, .slice none 0 0] (B, 0)) := Lib.hid ⟨r6, blk_more m6 A5.out, blk_more m6 B5.out, blk_more m6 C5.out, M5.out.trans m6, h45.out, by (have := hR; simp at this; omega), fun g h => by (have := h.1; simp at this; omega)⟩; clear hR r6 m6 x2)) | (go_at_call 78; ((with_reducible refine (RdNum_any J6.out.rd).mono ?_); rintro e w7 ⟨rfl, r7, a7⟩; rw [HN1.out]; have J7 := Lib.hid (J6.out.read (s' := tkS (B, 0) 4) r7 a7); clear r7 a7; have q1 := blk_cell J7.out.bm 1 (v := .int .u32 0) rfl; have z1 := blk_free J7.out.bm 1; have J7b := Lib.hid (J7.out.set 1 (.int .u32 N1)))) | (go_at_call 78; ((with_reducible refine (RdNum_any J7b.out.rd).mono ?_); rintro e w8 ⟨rfl, r8, a8⟩; rw [HN2.out]; have J8 := Lib.hid (J7b.out.read (s' := tkS (tkS (B, 0) 4) 4) r8 a8); clear r8 a8 q1 z1; have q2 := blk_cell J8.out.bm 2 (v := .int .u32 0) rfl; have z2 := blk_free J8.out.bm 2; have J9 := Lib.hid ((J8.out.set 2 (.int .u32 N2)).eq (cs' := #[.int .i64 1, .int .u32 N1, .int .u32 N2, .slice none 0 0, .slice none 0 0]) rfl); have q0 := blk_cell J9.out.bm 0 (v := .int .i64 1) rfl)))
  rw [HS2.out] at J9
  generalize hC0 : (fun g => (w4.alloc (.cells #[.int .i64 1, .int .u32 0, .int .u32 0, .slice none 0 0, .slice none 0 0] 85)).heap.size ≤ g ∧ g < w6.heap.size) = C at *
  have hBmw : Hid (w.heap.size + 1 < w4.heap.size) := h45
  clear hC0 A0 B0 A3 B3 M3 A5 B5 M5 C5 J6 J7 J7b J8 HRT HN1 HN2 HS2 q2 z2 h45
  generalize w4.heap.size = Bm at *
  generalize w8.setCell ⟨Bm, 2, none⟩ (.int .u32 N2) = w9 at *
  rw [restM_1] at HD2
  unfold doneM at HD2
  have hDD := HD2.out
  by_cases he : endS S2 = 0
  · rw [if_pos he] at hDD
    have HDD := Lib.hid hDD
    have HE := Lib.hid he
    obtain ⟨p0, p1, p2, p3, p4⟩ := cells5 J9.out.bm
    obtain ⟨g0, g1, g2, g3, g4⟩ := cells5 J9.out.b1
    obtain ⟨f0, f1, f2, f3, f4⟩ := free5 J9.out.b1
    clear hDD he
    go_wp2_with (go_at_call 81; ((with_reducible refine (RdEnd_S (s := S2) J9.out.rd).mono ?_); rintro e w20 ⟨rfl, hw⟩; subst hw; rw [HE.out]))
    have fin := st5_blk J9.out.b1 (.int .i64 1) (.int .u32 N1) (.int .u32 N2) (.slice none 0 0) (.slice none 0 0)
    have a5 := Away.st5 w20 (w.heap.size + 1) (.int .i64 1) (.int .u32 N1) (.int .u32 N2) (.slice none 0 0) (.slice none 0 0)
    have mf := Away.to_more J9.out.more a5 (fun b e => by omega)
    obtain ⟨WF, hWF⟩ : ∃ WF, (((((w20.setCell ⟨w.heap.size + 1, 0, none⟩ (.int .i64 1)).setCell ⟨w.heap.size + 1, 1, none⟩ (.int .u32 N1)).setCell ⟨w.heap.size + 1, 2, none⟩ (.int .u32 N2)).setCell ⟨w.heap.size + 1, 3, none⟩ (.slice none 0 0)).setCell ⟨w.heap.size + 1, 4, none⟩ (.slice none 0 0)) = WF := ⟨_, rfl⟩
    rw [hWF] at fin mf ⊢ a5
    clear hWF
    obtain ⟨r0, r1, r2, r3, r4⟩ := cells5 fin
    (refine bodyPost_ret (v := .tuple #[.agg #[.int .i64 1, .int .u32 N1, .int .u32 N2, .slice none 0 0, .slice none 0 0], .int .i64 0]) ?rr3 rfl ?_; (case rr3 => (simp [results, Try.results44, go_sem, r0, r1, r2, r3, r4])))
    refine ⟨⟨.slice none 0 0, .slice none 0 0, by first | (rw [← HDD.out]; done) | (rw [← HDD.out]; rfl), ?_⟩, mf⟩
    rw [← HDD.out]
    exact ⟨⟨SlP.nil _ _ _, SlI.nil _ _⟩, NewB.nil w, NewB.nil w⟩
  · rw [if_neg he] at hDD
    have HDD := Lib.hid hDD
    have heb : (endS S2 != 0) = true := by simpa using he
    obtain ⟨g0, g1, g2, g3, g4⟩ := cells5 J9.out.b1
    obtain ⟨f0, f1, f2, f3, f4⟩ := free5 J9.out.b1
    clear hDD he
    go_wp2_with (go_at_call 81; ((with_reducible refine (RdEnd_S (s := S2) J9.out.rd).mono ?_); rintro e w20 ⟨rfl, hw⟩; subst hw))
    have fin := st5_blk J9.out.b1 (.int .i64 0) (.int .u32 0) (.int .u32 0) (.slice none 0 0) (.slice none 0 0)
    have a5 := Away.st5 w20 (w.heap.size + 1) (.int .i64 0) (.int .u32 0) (.int .u32 0) (.slice none 0 0) (.slice none 0 0)
    have mf := Away.to_more J9.out.more a5 (fun b e => by omega)
    obtain ⟨WF, hWF⟩ : ∃ WF, (((((w20.setCell ⟨w.heap.size + 1, 0, none⟩ (.int .i64 0)).setCell ⟨w.heap.size + 1, 1, none⟩ (.int .u32 0)).setCell ⟨w.heap.size + 1, 2, none⟩ (.int .u32 0)).setCell ⟨w.heap.size + 1, 3, none⟩ (.slice none 0 0)).setCell ⟨w.heap.size + 1, 4, none⟩ (.slice none 0 0)) = WF := ⟨_, rfl⟩
    rw [hWF] at fin mf ⊢ a5
    clear hWF
    obtain ⟨r0, r1, r2, r3, r4⟩ := cells5 fin
    (refine bodyPost_ret (v := .tuple #[.agg #[.int .i64 0, .int .u32 0, .int .u32 0, .slice none 0 0, .slice none 0 0], .int .i64 (endS S2)]) ?rr4 rfl ?_; (case rr4 => (simp [results, Try.results44, go_sem, r0, r1, r2, r3, r4])))
    refine ⟨⟨.slice none 0 0, .slice none 0 0, by first | (rw [← HDD.out]; done) | (rw [← HDD.out]; rfl), ?_⟩, mf⟩
    rw [← HDD.out]
    exact ⟨⟨SlP.nil _ _ _, SlI.nil _ _⟩, NewB.nil w, NewB.nil w⟩
set_option maxHeartbeats 8000000 in
theorem Read09_2 {w : World} (n t : Int) (B : List Int) (ob : Option Addr) (cb : Nat) (D : Msg × Int) (SL : Hid (SlI .u8 w (.slice ob B.length cb) B)) (HB : Hid (Byt B)) (hl : B.length ≤ 1000000) (HR : Hid (rightB (n, t, B, ()) = true)) (HK : Hid (kindC (n, t, B, ()) = 2))
    (HD : Hid (restM 2 (rdNum (B, 0)) (rdNum (tkS (B, 0) 4)) (tkS (tkS (B, 0) 4) 4) = D)) :
    Calls Try.prog 44 #[.agg #[.int .u8 n, .int .u8 t, .slice ob B.length cb]] w fun e w' => (∃ va vl, e = .returned (.tuple #[.agg #[.int .i64 D.1.kind, .int .u32 D.1.snd, .int .u32 D.1.med, va, vl], .int .i64 D.2]) ∧ MsgS w' va vl D.1 ∧ NewB w va ∧ NewB w vl) ∧ More w w' := by
  have HRT := Lib.hid (Right07_any (w := (w.alloc (.cells #[.int .u8 n, .int .u8 t, .slice ob B.length cb] 30)).alloc (.cells #[.int .i64 0, .int .u32 0, .int .u32 0, .slice none 0 0, .slice none 0 0] 85)) (n, t, B, ()) (SL.out.keep ((More.alloc _ _).al _)) hl)
  have A0 := Lib.hid (blk_alloc (blk_new w (.cells #[.int .u8 n, .int .u8 t, .slice ob B.length cb] 30)) (.cells #[.int .i64 0, .int .u32 0, .int .u32 0, .slice none 0 0, .slice none 0 0] 85))
  have B0 := Lib.hid (blk_new2 (w := w.alloc (.cells #[.int .u8 n, .int .u8 t, .slice ob B.length cb] 30)) (n := w.heap.size + 1) (o := (.cells #[.int .i64 0, .int .u32 0, .int .u32 0, .slice none 0 0, .slice none 0 0] 85)) (by simp))
  obtain ⟨N1, hN1⟩ : ∃ x, num (tkB B 4) = x := ⟨_, rfl⟩
  obtain ⟨N2, hN2⟩ : ∃ x, num (tkB (tkS (B, 0) 4).1 4) = x := ⟨_, rfl⟩
  obtain ⟨S2, hS2⟩ : ∃ x, tkS (tkS (B, 0) 4) 4 = x := ⟨_, rfl⟩
  have HD2 : Hid (restM 2 N1 N2 S2 = D) := Lib.hid (by rw [← hN1, ← hN2, ← hS2]; exact HD.out)
  have HN1 := Lib.hid hN1
  have HN2 := Lib.hid hN2
  have HS2 := Lib.hid hS2
  have hn2 : 0 ≤ N2 := by
    have := num_u32 (s := tkS (B, 0) 4) (tkS_byt (s := (B, 0)) HB.out 4)
    rw [← hN2]; exact this.1
  clear hN1 hN2 hS2 HD
  go_enter Try.func44, Try.ntmps44
  go_upto_region 11 with (first | (go_at_call 49; ((with_reducible refine (HRT.out).mono ?_); rintro e w3 ⟨rfl, m3⟩; rw [HR.out]; have A3 := Lib.hid (blk_more m3 A0.out); have B3 := Lib.hid (blk_more m3 B0.out); have M3 := Lib.hid (((More.alloc w (.cells #[.int .u8 n, .int .u8 t, .slice ob B.length cb] 30)).al (.cells #[.int .i64 0, .int .u32 0, .int .u32 0, .slice none 0 0, .slice none 0 0] 85)).trans m3); clear m3; have x0 := blk_cell A3.out 0 (v := .int .u8 n) rfl; have x1 := blk_cell A3.out 1 (v := .int .u8 t) rfl; have x2 := blk_cell A3.out 2 (v := .slice ob B.length cb) rfl)) | (go_at_call 106; ((with_reducible refine (KindOf_any n t B ob cb _).mono ?_); rintro e w4 ⟨rfl, m4⟩; rw [HK.out]; have A5 := Lib.hid (blk_alloc (blk_more m4 A3.out) (.cells #[.int .i64 2, .int .u32 0, .int .u32 0, .slice none 0 0, .slice none 0 0] 85)); have B5 := Lib.hid (blk_alloc (blk_more m4 B3.out) (.cells #[.int .i64 2, .int .u32 0, .int .u32 0, .slice none 0 0, .slice none 0 0] 85)); have M5 := Lib.hid ((M3.out.trans m4).al (.cells #[.int .i64 2, .int .u32 0, .int .u32 0, .slice none 0 0, .slice none 0 0] 85)); have C5 := Lib.hid (blk_new w4 (.cells #[.int .i64 2, .int .u32 0, .int .u32 0, .slice none 0 0, .slice none 0 0] 85)); have h45 := Lib.hid (Nat.lt_of_lt_of_le (blk_lt B3.out) m4.size); clear m4 x0 x1 x2; have x2 := blk_cell A5.out 2 (v := .slice ob B.length cb) rfl)) | (go_at_call 77; ((with_reducible refine (RdNew_in _ B _ (SL.out.keep M5.out) HB.out hl).mono ?_); rintro e w6 ⟨R, rfl, hR, r6, m6⟩; have J6 : Hid (MdJ w w6 R w4.heap.size (fun g => (w4.alloc (.cells #[.int .i64 2, .int .u32 0, .int .u32 0, .slice none 0 0, .slice none 0 0] 85)).heap.size ≤ g ∧ g < w6.heap.size) (.cells #[.int .u8 n, .int .u8 t, .slice ob B.length cb] 30) (.cells #[.int .i64 0, .int .u32 0, .int .u32 0, .slice none 0 0, .slice none 0 0] 85) #[.int .i64 2, .int .u32 0, .int .u32 0, .slice none 0 0, .slice none 0 0] (B, 0)) := Lib.hid ⟨r6, blk_more m6 A5.out, blk_more m6 B5.out, blk_more m6 C5.out, M5.out.trans m6, h45.out, by (have := hR; simp at this; omega), fun g h => by (have := h.1; simp at this; omega)⟩; clear hR r6 m6 x2)) | (go_at_call 78; ((with_reducible refine (RdNum_any J6.out.rd).mono ?_); rintro e w7 ⟨rfl, r7, a7⟩; rw [HN1.out]; have J7 := Lib.hid (J6.out.read (s' := tkS (B, 0) 4) r7 a7); clear r7 a7; have q1 := blk_cell J7.out.bm 1 (v := .int .u32 0) rfl; have z1 := blk_free J7.out.bm 1; have J7b := Lib.hid (J7.out.set 1 (.int .u32 N1)))) | (go_at_call 78; ((with_reducible refine (RdNum_any J7b.out.rd).mono ?_); rintro e w8 ⟨rfl, r8, a8⟩; rw [HN2.out]; have J8 := Lib.hid (J7b.out.read (s' := tkS (tkS (B, 0) 4) 4) r8 a8); clear r8 a8 q1 z1; have q2 := blk_cell J8.out.bm 2 (v := .int .u32 0) rfl; have z2 := blk_free J8.out.bm 2; have J9 := Lib.hid ((J8.out.set 2 (.int .u32 N2)).eq (cs' := #[.int .i64 2, .int .u32 N1, .int .u32 N2, .slice none 0 0, .slice none 0 0]) rfl); have q0 := blk_cell J9.out.bm 0 (v := .int .i64 2) rfl)))
  rw [HS2.out] at J9
  generalize hC0 : (fun g => (w4.alloc (.cells #[.int .i64 2, .int .u32 0, .int .u32 0, .slice none 0 0, .slice none 0 0] 85)).heap.size ≤ g ∧ g < w6.heap.size) = C at *
  have hBmw : Hid (w.heap.size + 1 < w4.heap.size) := h45
  clear hC0 A0 B0 A3 B3 M3 A5 B5 M5 C5 J6 J7 J7b J8 HRT HN1 HN2 HS2 q2 z2 h45
  generalize w4.heap.size = Bm at *
  generalize w8.setCell ⟨Bm, 2, none⟩ (.int .u32 N2) = w9 at *
  have hq : num (tkB B 4) = num (tkB B 4) := rfl
  clear hq q0
  have q2 := blk_cell J9.out.bm 2 (v := .int .u32 N2) rfl
  obtain ⟨Q, hQ⟩ : ∃ Q : Bool, Q = decide (¬ N2 = 0 ∨ S2.1.length = 0 ∨ ¬ S2.1.length % 8 = 0) := ⟨_, rfl⟩
  have HQ := Lib.hid hQ
  clear hQ
  go_cut [44] from 31 to 43 (fun v wx => v = .bool Q ∧ w9 = wx)
  case first =>
    by_cases c1 : N2 = 0
    · have bm : (N2 != 0) = false := by simpa using c1
      by_cases c2 : S2.1.length = 0
      · have b2 : ((S2.1.length : Int) == 0) = true := eqB (by omega)
        have HA : Hid (true = Q) := Lib.hid (by rw [HQ.out]; exact (decide_eq_true (Or.inr (Or.inl c2))).symm)
        clear c1 c2
        go_wp2_with (go_at_call 92; ((with_reducible refine (RdLeft_k J9.out.rd).mono ?_); rintro e w10 ⟨rfl, rfl⟩))
        go_meet
        rw [← HA.out]
        exact ⟨rfl, rfl⟩
      · have b2 : ((S2.1.length : Int) == 0) = false := neB (by omega)
        by_cases c3 : S2.1.length % 8 = 0
        · have b3 : ((S2.1.length : Int) % 8 != 0) = false := by simp; omega
          have HA : Hid (false = Q) := Lib.hid (by rw [HQ.out]; exact (decide_eq_false (by rintro (h | h | h); exact h c1; exact c2 h; exact h c3)).symm)
          clear c1 c2 c3
          go_wp2_with (go_at_call 92; ((with_reducible refine (RdLeft_k J9.out.rd).mono ?_); rintro e w10 ⟨rfl, rfl⟩))
          go_meet
          rw [← HA.out]
          exact ⟨rfl, rfl⟩
        · have b3 : ((S2.1.length : Int) % 8 != 0) = true := by simp; omega
          have HA : Hid (true = Q) := Lib.hid (by rw [HQ.out]; exact (decide_eq_true (Or.inr (Or.inr c3))).symm)
          clear c1 c2 c3
          go_wp2_with (go_at_call 92; ((with_reducible refine (RdLeft_k J9.out.rd).mono ?_); rintro e w10 ⟨rfl, rfl⟩))
          go_meet
          rw [← HA.out]
          exact ⟨rfl, rfl⟩
    · have bm : (N2 != 0) = true := by simpa using c1
      have HA : Hid (true = Q) := Lib.hid (by rw [HQ.out]; exact (decide_eq_true (Or.inl c1)).symm)
      clear c1
      go_wp2_with (go_at_call 92; ((with_reducible refine (RdLeft_k J9.out.rd).mono ?_); rintro e w10 ⟨rfl, rfl⟩))
      go_meet
      rw [← HA.out]
      exact ⟨rfl, rfl⟩
  case rest =>
  obtain ⟨rfl, rfl⟩ := hcut
  go_upto_if 44 with fail
  go_cut [] from 45 to 46 (fun wx => MdJ w wx R Bm C (.cells #[.int .u8 n, .int .u8 t, .slice ob B.length cb] 30) (.cells #[.int .i64 0, .int .u32 0, .int .u32 0, .slice none 0 0, .slice none 0 0] 85) #[.int .i64 2, .int .u32 N1, .int .u32 N2, .slice none 0 0, .slice none 0 0] (asksS N2 S2))
  case first =>
    have HWR := Lib.hid (RdWrong_any (s := S2) J9.out.rd 2)
    cases Q with
    | true =>
      have HA : Hid (asksS N2 S2 = wrS S2 2) := Lib.hid (by unfold asksS; rw [if_pos (of_decide_eq_true HQ.out.symm)])
      go_wp2_with (first | (go_at_call 90; ((with_reducible refine (HWR.out).mono ?_); rintro e w11 ⟨rfl, r11, a11⟩; have J11 := Lib.hid (J9.out.read (s' := wrS S2 2) r11 a11); clear r11 a11)))
      go_meet
      rw [HA.out]
      exact J11.out
    | false =>
      have HA : Hid (asksS N2 S2 = S2) := Lib.hid (by unfold asksS; rw [if_neg (of_decide_eq_false HQ.out.symm)])
      go_wp2
      go_meet
      rw [HA.out]
      exact J9.out
  case rest =>
  have JA := Lib.hid hcut
  clear hcut J9 q2 HQ
  have HLN := Lib.hid (asksS_len N2 S2)
  have hlt : R < wc.heap.size := by obtain ⟨v, h1, _⟩ := JA.out.rd.blk; exact blk_lt h1
  go_wp2_with (go_at_call 107; ((with_reducible refine (ReadAsks_any (s0 := asksS N2 S2) JA.out.rd hlt).mono ?_); rintro e w12 ⟨v12, rfl, k12⟩; have K12 := Lib.hid k12; have J12 := Lib.hid (JA.out.read (s' := (readAsksF (asksS N2 S2).1.length [] (asksS N2 S2)).2) (k12.rd.mono (fun g h => h.1)) k12.away); obtain ⟨o12, n12, c12, rfl, hz1, hz2⟩ := k12.row.shape; clear hz1 hz2 k12; have q3 := blk_cell J12.out.bm 3 (v := .slice none 0 0) rfl; have z3 := blk_free J12.out.bm 3; have J13 := Lib.hid ((J12.out.set 3 (.slice o12 n12 c12)).eq (cs' := #[.int .i64 2, .int .u32 N1, .int .u32 N2, .slice o12 n12 c12, .slice none 0 0]) rfl)))
  have HSA : Hid (SlP 2 RAsk (w12.setCell ⟨Bm, 3, none⟩ (.slice o12 n12 c12)) (.slice o12 n12 c12) (readAsksF (asksS N2 S2).1.length [] (asksS N2 S2)).1) := Lib.hid (slA_off (K12.out.row.sl (by decide)) (fun b hb e => by have := K12.out.row.ge hb; have := blk_lt JA.out.bm; omega) ((Away.refl (fun b => b = Bm) w12).set (p := ⟨Bm, 3, none⟩) rfl _))
  have HOW : Hid (∀ b, (Value.slice o12 n12 c12).ownBlock = some b → ¬ b = w.heap.size + 1) := Lib.hid (fun b hb e => by have := K12.out.row.ge hb; have := blk_lt JA.out.b1; omega)
  have GW : Hid (NewB w (.slice o12 n12 c12)) := Lib.hid (fun b hb => by have := K12.out.row.ge hb; have := blk_lt JA.out.b1; omega)
  rw [restM_2] at HD2
  have HF := readAsksF_more (asksS N2 S2).1.length S2.1.length [] (asksS N2 S2) (Nat.le_refl _) HLN.out
  rw [HF] at HD2
  unfold doneM at HD2
  clear HF K12 JA J12 q3 z3 HLN
  generalize readAsksF (asksS N2 S2).1.length [] (asksS N2 S2) = RA at *
  generalize w12.setCell ⟨Bm, 3, none⟩ (.slice o12 n12 c12) = w13 at *
  have hDD := HD2.out
  by_cases he : endS RA.2 = 0
  · rw [if_pos he] at hDD
    have HDD := Lib.hid hDD
    have HE := Lib.hid he
    obtain ⟨p0, p1, p2, p3, p4⟩ := cells5 J13.out.bm
    obtain ⟨g0, g1, g2, g3, g4⟩ := cells5 J13.out.b1
    obtain ⟨f0, f1, f2, f3, f4⟩ := free5 J13.out.b1
    clear hDD he
    go_wp2_with (go_at_call 81; ((with_reducible refine (RdEnd_S (s := RA.2) J13.out.rd).mono ?_); rintro e w20 ⟨rfl, hw⟩; subst hw; rw [HE.out]))
    have fin := st5_blk J13.out.b1 (.int .i64 2) (.int .u32 N1) (.int .u32 N2) (.slice o12 n12 c12) (.slice none 0 0)
    have a5 := Away.st5 w20 (w.heap.size + 1) (.int .i64 2) (.int .u32 N1) (.int .u32 N2) (.slice o12 n12 c12) (.slice none 0 0)
    have mf := Away.to_more J13.out.more a5 (fun b e => by omega)
    obtain ⟨WF, hWF⟩ : ∃ WF, (((((w20.setCell ⟨w.heap.size + 1, 0, none⟩ (.int .i64 2)).setCell ⟨w.heap.size + 1, 1, none⟩ (.int .u32 N1)).setCell ⟨w.heap.size + 1, 2, none⟩ (.int .u32 N2)).setCell ⟨w.heap.size + 1, 3, none⟩ (.slice o12 n12 c12)).setCell ⟨w.heap.size + 1, 4, none⟩ (.slice none 0 0)) = WF := ⟨_, rfl⟩
    rw [hWF] at fin mf ⊢ a5
    clear hWF
    obtain ⟨r0, r1, r2, r3, r4⟩ := cells5 fin
    (refine bodyPost_ret (v := .tuple #[.agg #[.int .i64 2, .int .u32 N1, .int .u32 N2, .slice o12 n12 c12, .slice none 0 0], .int .i64 0]) ?rr5 rfl ?_; (case rr5 => (simp [results, Try.results44, go_sem, r0, r1, r2, r3, r4])))
    refine ⟨⟨.slice o12 n12 c12, .slice none 0 0, by first | (rw [← HDD.out]; done) | (rw [← HDD.out]; rfl), ?_⟩, mf⟩
    rw [← HDD.out]
    exact ⟨⟨slA_off HSA.out HOW.out a5, SlI.nil _ _⟩, GW.out, NewB.nil w⟩
  · rw [if_neg he] at hDD
    have HDD := Lib.hid hDD
    have heb : (endS RA.2 != 0) = true := by simpa using he
    obtain ⟨g0, g1, g2, g3, g4⟩ := cells5 J13.out.b1
    obtain ⟨f0, f1, f2, f3, f4⟩ := free5 J13.out.b1
    clear hDD he
    go_wp2_with (go_at_call 81; ((with_reducible refine (RdEnd_S (s := RA.2) J13.out.rd).mono ?_); rintro e w20 ⟨rfl, hw⟩; subst hw))
    have fin := st5_blk J13.out.b1 (.int .i64 0) (.int .u32 0) (.int .u32 0) (.slice none 0 0) (.slice none 0 0)
    have a5 := Away.st5 w20 (w.heap.size + 1) (.int .i64 0) (.int .u32 0) (.int .u32 0) (.slice none 0 0) (.slice none 0 0)
    have mf := Away.to_more J13.out.more a5 (fun b e => by omega)
    obtain ⟨WF, hWF⟩ : ∃ WF, (((((w20.setCell ⟨w.heap.size + 1, 0, none⟩ (.int .i64 0)).setCell ⟨w.heap.size + 1, 1, none⟩ (.int .u32 0)).setCell ⟨w.heap.size + 1, 2, none⟩ (.int .u32 0)).setCell ⟨w.heap.size + 1, 3, none⟩ (.slice none 0 0)).setCell ⟨w.heap.size + 1, 4, none⟩ (.slice none 0 0)) = WF := ⟨_, rfl⟩
    rw [hWF] at fin mf ⊢ a5
    clear hWF
    obtain ⟨r0, r1, r2, r3, r4⟩ := cells5 fin
    (refine bodyPost_ret (v := .tuple #[.agg #[.int .i64 0, .int .u32 0, .int .u32 0, .slice none 0 0, .slice none 0 0], .int .i64 (endS RA.2)]) ?rr6 rfl ?_; (case rr6 => (simp [results, Try.results44, go_sem, r0, r1, r2, r3, r4])))
    refine ⟨⟨.slice none 0 0, .slice none 0 0, by first | (rw [← HDD.out]; done) | (rw [← HDD.out]; rfl), ?_⟩, mf⟩
    rw [← HDD.out]
    exact ⟨⟨SlP.nil _ _ _, SlI.nil _ _⟩, NewB.nil w, NewB.nil w⟩
set_option maxHeartbeats 8000000 in
theorem Read09_3 {w : World} (n t : Int) (B : List Int) (ob : Option Addr) (cb : Nat) (D : Msg × Int) (SL : Hid (SlI .u8 w (.slice ob B.length cb) B)) (HB : Hid (Byt B)) (hl : B.length ≤ 1000000) (HR : Hid (rightB (n, t, B, ()) = true)) (HK : Hid (kindC (n, t, B, ()) = 3))
    (HD : Hid (restM 3 (rdNum (B, 0)) (rdNum (tkS (B, 0) 4)) (tkS (tkS (B, 0) 4) 4) = D)) :
    Calls Try.prog 44 #[.agg #[.int .u8 n, .int .u8 t, .slice ob B.length cb]] w fun e w' => (∃ va vl, e = .returned (.tuple #[.agg #[.int .i64 D.1.kind, .int .u32 D.1.snd, .int .u32 D.1.med, va, vl], .int .i64 D.2]) ∧ MsgS w' va vl D.1 ∧ NewB w va ∧ NewB w vl) ∧ More w w' := by
  have HRT := Lib.hid (Right07_any (w := (w.alloc (.cells #[.int .u8 n, .int .u8 t, .slice ob B.length cb] 30)).alloc (.cells #[.int .i64 0, .int .u32 0, .int .u32 0, .slice none 0 0, .slice none 0 0] 85)) (n, t, B, ()) (SL.out.keep ((More.alloc _ _).al _)) hl)
  have A0 := Lib.hid (blk_alloc (blk_new w (.cells #[.int .u8 n, .int .u8 t, .slice ob B.length cb] 30)) (.cells #[.int .i64 0, .int .u32 0, .int .u32 0, .slice none 0 0, .slice none 0 0] 85))
  have B0 := Lib.hid (blk_new2 (w := w.alloc (.cells #[.int .u8 n, .int .u8 t, .slice ob B.length cb] 30)) (n := w.heap.size + 1) (o := (.cells #[.int .i64 0, .int .u32 0, .int .u32 0, .slice none 0 0, .slice none 0 0] 85)) (by simp))
  obtain ⟨N1, hN1⟩ : ∃ x, num (tkB B 4) = x := ⟨_, rfl⟩
  obtain ⟨N2, hN2⟩ : ∃ x, num (tkB (tkS (B, 0) 4).1 4) = x := ⟨_, rfl⟩
  obtain ⟨S2, hS2⟩ : ∃ x, tkS (tkS (B, 0) 4) 4 = x := ⟨_, rfl⟩
  have HD2 : Hid (restM 3 N1 N2 S2 = D) := Lib.hid (by rw [← hN1, ← hN2, ← hS2]; exact HD.out)
  have HN1 := Lib.hid hN1
  have HN2 := Lib.hid hN2
  have HS2 := Lib.hid hS2
  have hn2 : 0 ≤ N2 := by
    have := num_u32 (s := tkS (B, 0) 4) (tkS_byt (s := (B, 0)) HB.out 4)
    rw [← hN2]; exact this.1
  clear hN1 hN2 hS2 HD
  go_enter Try.func44, Try.ntmps44
  go_wp2_with (first | (go_at_call 49; ((with_reducible refine (HRT.out).mono ?_); rintro e w3 ⟨rfl, m3⟩; rw [HR.out]; have A3 := Lib.hid (blk_more m3 A0.out); have B3 := Lib.hid (blk_more m3 B0.out); have M3 := Lib.hid (((More.alloc w (.cells #[.int .u8 n, .int .u8 t, .slice ob B.length cb] 30)).al (.cells #[.int .i64 0, .int .u32 0, .int .u32 0, .slice none 0 0, .slice none 0 0] 85)).trans m3); clear m3; have x0 := blk_cell A3.out 0 (v := .int .u8 n) rfl; have x1 := blk_cell A3.out 1 (v := .int .u8 t) rfl; have x2 := blk_cell A3.out 2 (v := .slice ob B.length cb) rfl)) | (go_at_call 106; ((with_reducible refine (KindOf_any n t B ob cb _).mono ?_); rintro e w4 ⟨rfl, m4⟩; rw [HK.out]; have A5 := Lib.hid (blk_alloc (blk_more m4 A3.out) (.cells #[.int .i64 3, .int .u32 0, .int .u32 0, .slice none 0 0, .slice none 0 0] 85)); have B5 := Lib.hid (blk_alloc (blk_more m4 B3.out) (.cells #[.int .i64 3, .int .u32 0, .int .u32 0, .slice none 0 0, .slice none 0 0] 85)); have M5 := Lib.hid ((M3.out.trans m4).al (.cells #[.int .i64 3, .int .u32 0, .int .u32 0, .slice none 0 0, .slice none 0 0] 85)); have C5 := Lib.hid (blk_new w4 (.cells #[.int .i64 3, .int .u32 0, .int .u32 0, .slice none 0 0, .slice none 0 0] 85)); have h45 := Lib.hid (Nat.lt_of_lt_of_le (blk_lt B3.out) m4.size); clear m4 x0 x1 x2; have x2 := blk_cell A5.out 2 (v := .slice ob B.length cb) rfl)) | (go_at_call 77; ((with_reducible refine (RdNew_in _ B _ (SL.out.keep M5.out) HB.out hl).mono ?_); rintro e w6 ⟨R, rfl, hR, r6, m6⟩; have J6 : Hid (MdJ w w6 R w4.heap.size (fun g => (w4.alloc (.cells #[.int .i64 3, .int .u32 0, .int .u32 0, .slice none 0 0, .slice none 0 0] 85)).heap.size ≤ g ∧ g < w6.heap.size) (.cells #[.int .u8 n, .int .u8 t, .slice ob B.length cb] 30) (.cells #[.int .i64 0, .int .u32 0, .int .u32 0, .slice none 0 0, .slice none 0 0] 85) #[.int .i64 3, .int .u32 0, .int .u32 0, .slice none 0 0, .slice none 0 0] (B, 0)) := Lib.hid ⟨r6, blk_more m6 A5.out, blk_more m6 B5.out, blk_more m6 C5.out, M5.out.trans m6, h45.out, by (have := hR; simp at this; omega), fun g h => by (have := h.1; simp at this; omega)⟩; clear hR r6 m6 x2)) | (go_at_call 78; ((with_reducible refine (RdNum_any J6.out.rd).mono ?_); rintro e w7 ⟨rfl, r7, a7⟩; rw [HN1.out]; have J7 := Lib.hid (J6.out.read (s' := tkS (B, 0) 4) r7 a7); clear r7 a7; have q1 := blk_cell J7.out.bm 1 (v := .int .u32 0) rfl; have z1 := blk_free J7.out.bm 1; have J7b := Lib.hid (J7.out.set 1 (.int .u32 N1)))) | (go_at_call 78; ((with_reducible refine (RdNum_any J7b.out.rd).mono ?_); rintro e w8 ⟨rfl, r8, a8⟩; rw [HN2.out]; have J8 := Lib.hid (J7b.out.read (s' := tkS (tkS (B, 0) 4) 4) r8 a8); clear r8 a8 q1 z1; have q2 := blk_cell J8.out.bm 2 (v := .int .u32 0) rfl; have z2 := blk_free J8.out.bm 2; have J9 := Lib.hid ((J8.out.set 2 (.int .u32 N2)).eq (cs' := #[.int .i64 3, .int .u32 N1, .int .u32 N2, .slice none 0 0, .slice none 0 0]) rfl); have q0 := blk_cell J9.out.bm 0 (v := .int .i64 3) rfl)) | (go_at_call 108; ((with_reducible refine (ReadLost_any (s0 := tkS (tkS (B, 0) 4) 4) J9.out.rd (by obtain ⟨v, h1, _⟩ := J9.out.rd.blk; exact blk_lt h1)).mono ?_); rintro e w12 ⟨v12, rfl, k12⟩; rw [HS2.out] at k12; have K12 := Lib.hid k12; have J12 := Lib.hid (J9.out.read (s' := (readLostF S2.1.length [] (lostS S2)).2) (k12.rd.mono (fun g h => h.1)) k12.away); obtain ⟨o12, n12, c12, rfl, hz1, hz2⟩ := slice_of_row k12.row; clear hz1 hz2 k12 q0; have q4 := blk_cell J12.out.bm 4 (v := .slice none 0 0) rfl; have z4 := blk_free J12.out.bm 4; have J13 := Lib.hid ((J12.out.set 4 (.slice o12 n12 c12)).eq (cs' := #[.int .i64 3, .int .u32 N1, .int .u32 N2, .slice none 0 0, .slice o12 n12 c12]) rfl))))
  have HSA : Hid (SlI .u16 (w12.setCell ⟨w4.heap.size, 4, none⟩ (.slice o12 n12 c12)) (.slice o12 n12 c12) (readLostF S2.1.length [] (lostS S2)).1) := Lib.hid (SlI.off (SlI.of_owns K12.out.row (ownsm K12.out.row)) (fun b hb e => by have := owns_ge K12.out.row hb; have := blk_lt J9.out.bm; omega) ((Away.refl (fun b => b = w4.heap.size) w12).set (p := ⟨w4.heap.size, 4, none⟩) rfl _))
  have HOW : Hid (∀ b, (Value.slice o12 n12 c12).ownBlock = some b → ¬ b = w.heap.size + 1) := Lib.hid (fun b hb e => by have := owns_ge K12.out.row hb; have := blk_lt J9.out.b1; omega)
  have GW : Hid (NewB w (.slice o12 n12 c12)) := Lib.hid (fun b hb => by have := owns_ge K12.out.row hb; have := blk_lt J9.out.b1; omega)
  rw [restM_3] at HD2
  unfold doneM at HD2
  have hBmw := h45
  generalize hC0 : (fun g => (w4.alloc (.cells #[.int .i64 3, .int .u32 0, .int .u32 0, .slice none 0 0, .slice none 0 0] 85)).heap.size ≤ g ∧ g < w6.heap.size) = C at *
  clear hC0 A0 B0 A3 B3 M3 A5 B5 M5 C5 J6 J7 J7b J8 J9 J12 K12 HRT HN1 HN2 HS2 q2 z2 q4 z4 h45
  generalize w4.heap.size = Bm at *
  generalize w12.setCell ⟨Bm, 4, none⟩ (.slice o12 n12 c12) = w13 at *
  generalize readLostF S2.1.length [] (lostS S2) = RA at *
  have hDD := HD2.out
  by_cases he : endS RA.2 = 0
  · rw [if_pos he] at hDD
    have HDD := Lib.hid hDD
    have HE := Lib.hid he
    obtain ⟨p0, p1, p2, p3, p4⟩ := cells5 J13.out.bm
    obtain ⟨g0, g1, g2, g3, g4⟩ := cells5 J13.out.b1
    obtain ⟨f0, f1, f2, f3, f4⟩ := free5 J13.out.b1
    clear hDD he
    go_wp2_with (go_at_call 81; ((with_reducible refine (RdEnd_S (s := RA.2) J13.out.rd).mono ?_); rintro e w20 ⟨rfl, hw⟩; subst hw; rw [HE.out]))
    have fin := st5_blk J13.out.b1 (.int .i64 3) (.int .u32 N1) (.int .u32 N2) (.slice none 0 0) (.slice o12 n12 c12)
    have a5 := Away.st5 w20 (w.heap.size + 1) (.int .i64 3) (.int .u32 N1) (.int .u32 N2) (.slice none 0 0) (.slice o12 n12 c12)
    have mf := Away.to_more J13.out.more a5 (fun b e => by omega)
    obtain ⟨WF, hWF⟩ : ∃ WF, (((((w20.setCell ⟨w.heap.size + 1, 0, none⟩ (.int .i64 3)).setCell ⟨w.heap.size + 1, 1, none⟩ (.int .u32 N1)).setCell ⟨w.heap.size + 1, 2, none⟩ (.int .u32 N2)).setCell ⟨w.heap.size + 1, 3, none⟩ (.slice none 0 0)).setCell ⟨w.heap.size + 1, 4, none⟩ (.slice o12 n12 c12)) = WF := ⟨_, rfl⟩
    rw [hWF] at fin mf ⊢ a5
    clear hWF
    obtain ⟨r0, r1, r2, r3, r4⟩ := cells5 fin
    (refine bodyPost_ret (v := .tuple #[.agg #[.int .i64 3, .int .u32 N1, .int .u32 N2, .slice none 0 0, .slice o12 n12 c12], .int .i64 0]) ?rr7 rfl ?_; (case rr7 => (simp [results, Try.results44, go_sem, r0, r1, r2, r3, r4])))
    refine ⟨⟨.slice none 0 0, .slice o12 n12 c12, by first | (rw [← HDD.out]; done) | (rw [← HDD.out]; rfl), ?_⟩, mf⟩
    rw [← HDD.out]
    exact ⟨⟨SlP.nil _ _ _, SlI.off HSA.out HOW.out a5⟩, NewB.nil w, GW.out⟩
  · rw [if_neg he] at hDD
    have HDD := Lib.hid hDD
    have heb : (endS RA.2 != 0) = true := by simpa using he
    obtain ⟨g0, g1, g2, g3, g4⟩ := cells5 J13.out.b1
    obtain ⟨f0, f1, f2, f3, f4⟩ := free5 J13.out.b1
    clear hDD he
    go_wp2_with (go_at_call 81; ((with_reducible refine (RdEnd_S (s := RA.2) J13.out.rd).mono ?_); rintro e w20 ⟨rfl, hw⟩; subst hw))
    have fin := st5_blk J13.out.b1 (.int .i64 0) (.int .u32 0) (.int .u32 0) (.slice none 0 0) (.slice none 0 0)
    have a5 := Away.st5 w20 (w.heap.size + 1) (.int .i64 0) (.int .u32 0) (.int .u32 0) (.slice none 0 0) (.slice none 0 0)
    have mf := Away.to_more J13.out.more a5 (fun b e => by omega)
    obtain ⟨WF, hWF⟩ : ∃ WF, (((((w20.setCell ⟨w.heap.size + 1, 0, none⟩ (.int .i64 0)).setCell ⟨w.heap.size + 1, 1, none⟩ (.int .u32 0)).setCell ⟨w.heap.size + 1, 2, none⟩ (.int .u32 0)).setCell ⟨w.heap.size + 1, 3, none⟩ (.slice none 0 0)).setCell ⟨w.heap.size + 1, 4, none⟩ (.slice none 0 0)) = WF := ⟨_, rfl⟩
    rw [hWF] at fin mf ⊢ a5
    clear hWF
    obtain ⟨r0, r1, r2, r3, r4⟩ := cells5 fin
    (refine bodyPost_ret (v := .tuple #[.agg #[.int .i64 0, .int .u32 0, .int .u32 0, .slice none 0 0, .slice none 0 0], .int .i64 (endS RA.2)]) ?rr8 rfl ?_; (case rr8 => (simp [results, Try.results44, go_sem, r0, r1, r2, r3, r4])))
    refine ⟨⟨.slice none 0 0, .slice none 0 0, by first | (rw [← HDD.out]; done) | (rw [← HDD.out]; rfl), ?_⟩, mf⟩
    rw [← HDD.out]
    exact ⟨⟨SlP.nil _ _ _, SlI.nil _ _⟩, NewB.nil w, NewB.nil w⟩
theorem Read09_new {w : World} {vb : Value} (c : Chunk) (sl : SlI .u8 w vb c.2.2.1) (hk : ChunkOK c) (hl : c.2.2.1.length ≤ 1000000) :
    Calls Try.prog 44 #[.agg #[.int .u8 c.1, .int .u8 c.2.1, vb]] w fun e w' => (∃ va vl, e = .returned (.tuple #[.agg #[.int .i64 (readM c).1.kind, .int .u32 (readM c).1.snd, .int .u32 (readM c).1.med, va, vl], .int .i64 (readM c).2]) ∧ MsgS w' va vl (readM c).1 ∧ NewB w va ∧ NewB w vl) ∧ More w w' := by
  obtain ⟨n, t, B, ⟨⟩⟩ := c
  obtain ⟨_, _, hb⟩ := hk
  simp only at *
  have SL := Lib.hid sl
  obtain ⟨ob, cb, rfl, _⟩ := sl
  cases hr : rightB (n, t, B, ()) with
  | false =>
    have e : readM (n, t, B, ()) = (msg0, 1) := by unfold readM; rw [if_pos hr]
    rw [e]
    exact (Read09_no n t B ob cb SL hl (Lib.hid hr)).mono fun e w' ⟨h1, h2⟩ => ⟨⟨_, _, h1, ⟨SlP.nil _ _ _, SlI.nil _ _⟩, NewB.nil w, NewB.nil w⟩, h2⟩
  | true =>
    by_cases h0 : kindC (n, t, B, ()) = 0
    · have e : readM (n, t, B, ()) = (msg0, 5) := by unfold readM; rw [if_neg (by rw [hr]; simp), if_pos h0]
      rw [e]
      exact (Read09_none n t B ob cb SL hl (Lib.hid hr) (Lib.hid h0)).mono fun e w' ⟨h1, h2⟩ => ⟨⟨_, _, h1, ⟨SlP.nil _ _ _, SlI.nil _ _⟩, NewB.nil w, NewB.nil w⟩, h2⟩
    · have e : readM (n, t, B, ()) = restM (kindC (n, t, B, ())) (rdNum (B, 0)) (rdNum (tkS (B, 0) 4)) (tkS (tkS (B, 0) 4) 4) := by unfold readM; rw [if_neg (by rw [hr]; simp), if_neg h0]
      rw [e]
      rcases (kindC_form h0).2 with hk | hk | hk
      · exact Read09_1 n t B ob cb _ SL (Lib.hid hb) hl (Lib.hid hr) (Lib.hid hk) (Lib.hid (by rw [hk]))
      · exact Read09_2 n t B ob cb _ SL (Lib.hid hb) hl (Lib.hid hr) (Lib.hid hk) (Lib.hid (by rw [hk]))
      · exact Read09_3 n t B ob cb _ SL (Lib.hid hb) hl (Lib.hid hr) (Lib.hid hk) (Lib.hid (by rw [hk]))
theorem Read09_any {w : World} {vb : Value} (c : Chunk) (sl : SlI .u8 w vb c.2.2.1) (hk : ChunkOK c) (hl : c.2.2.1.length ≤ 1000000) :
    Calls Try.prog 44 #[.agg #[.int .u8 c.1, .int .u8 c.2.1, vb]] w fun e w' => (∃ va vl, e = .returned (.tuple #[.agg #[.int .i64 (readM c).1.kind, .int .u32 (readM c).1.snd, .int .u32 (readM c).1.med, va, vl], .int .i64 (readM c).2]) ∧ MsgS w' va vl (readM c).1) ∧ More w w' := by
  exact (Read09_new c sl hk hl).mono fun e w' ⟨⟨va, vl, h1, h2, _⟩, h3⟩ => ⟨⟨va, vl, h1, h2⟩, h3⟩
end Go.Proofs.Ytlnikmcimmnbmaa
