/- Merged from my texts LaneFa. -/
import Derived.Test.YtdgmmffedhikcaaMg30
import Derived.Test.YtdgmmffedhikcaaMg31
import Derived.Deep.Cut
import Derived.Deep.CutRange
import Derived.Deep.CutBlock
/- The law LaneFates of lane, walked. (printed by gen_laneFa.py) -/
namespace Go.Proofs.Ytdgmmffedhikcaa
set_option linter.unusedSimpArgs false
set_option linter.unusedVariables false
open Go.RowKit
set_option maxRecDepth 100000

theorem MapAt.same {K V : Type} [DecidableEq K] {w w' : World} {b : Nat} {ke : K → Value} {ve : V → Value} {L : List (K × V)} (h : MapAt w b ke ve L) (hs : w'.heap[b]? = w.heap[b]?) : MapAt w' b ke ve L := by
  obtain ⟨⟨es, c, hb, r⟩, k⟩ := h
  exact ⟨⟨es, c, hs.trans hb, r⟩, k⟩
theorem zero_int (w : World) : (zeroValue 3).run Try.prog w = .ok (.int .i64 0) w := by simp [go_sem]
theorem keyI64 : KeyOK Try.prog 3 (Value.int .i64) := keyInt Try.underlying3
def endM (E : List Int) : List (Int × Int) := E.map fun i => (i, 1)
theorem endM_len (E : List Int) : (endM E).length = E.length := by unfold endM; simp
theorem endM_get {E : List Int} {i : Int} (h : i ∉ E) : mget (endM E) i = none := by
  induction E with
  | nil => rfl
  | cons a E ih =>
    simp only [List.mem_cons, not_or] at h
    have ih := ih h.2
    unfold endM at ih ⊢
    have hn : ¬ i = a := h.1
    simp [mget, hn, ih]
theorem endM_put {E : List Int} {i : Int} (h : i ∉ E) : mput (endM E) i 1 = endM (E ++ [i]) := by
  induction E with
  | nil => rfl
  | cons a E ih =>
    simp only [List.mem_cons, not_or] at h
    have ih := ih h.2
    unfold endM at ih ⊢
    have hn : ¬ i = a := h.1
    simp [mput, hn, ih]
set_option maxHeartbeats 2000000 in
theorem LaneFates_bad (m mo src sq st : Int) (oa : Option Addr) (n cap : Nat) (w : World) (h : cfgB m mo = false) :
    Calls Try.prog 3 #[.agg #[.int .i64 m, .int .i64 mo, .int .u32 src, .int .u16 sq, .int .u32 st], .slice oa n cap] w fun e w' => e = .returned (.bool true) ∧ More w w' := by
  have HB := Lib.hid (new_bad m mo src sq st h)
  clear h
  go_enter Try.func3, Try.ntmps3
  go_wp2_with (first | (go_at_call 9; ((with_reducible refine (awake20 _).mono ?_); rintro e w1 ⟨rfl, m1⟩; have B1 := Lib.hid (blk_more m1 (blk_new w (.cells #[.int .i64 m, .int .i64 mo, .int .u32 src, .int .u16 sq, .int .u32 st] 25))); have M1 : Hid (More w w1) := Lib.hid ((More.alloc _ _).trans m1); have q0 : w1.cell? ⟨w.heap.size, 0, none⟩ = some (.int .i64 m) := blk_cell B1.out 0 rfl; have q1 : w1.cell? ⟨w.heap.size, 1, none⟩ = some (.int .i64 mo) := blk_cell B1.out 1 rfl; have q2 : w1.cell? ⟨w.heap.size, 2, none⟩ = some (.int .u32 src) := blk_cell B1.out 2 rfl; have q3 : w1.cell? ⟨w.heap.size, 3, none⟩ = some (.int .u16 sq) := blk_cell B1.out 3 rfl; have q4 : w1.cell? ⟨w.heap.size, 4, none⟩ = some (.int .u32 st) := blk_cell B1.out 4 rfl; clear m1)) | (go_at_call 10; ((with_reducible refine (HB.out _).mono ?_); rintro e w2 ⟨rfl, m2⟩; have M2 : Hid (More w w2) := Lib.hid (M1.out.trans m2); clear m2)))
  go_ret
  exact ⟨rfl, M2.out⟩
set_option maxHeartbeats 2000000 in
theorem LaneFates_large (n : Nat) (mo src sq st : Int) (v : Value) (l : List ActS) (w : World) (h1 : 1 ≤ n) (h2 : n ≤ 8) (h3 : 1 ≤ mo) (h4 : mo ≤ 10) (hq : U16 sq) (hs : U32 src) (sl : SlP 16 RAct w v l) (hl : lrgA l = true) :
    Calls Try.prog 3 #[.agg #[.int .i64 n, .int .i64 mo, .int .u32 src, .int .u16 sq, .int .u32 st], v] w fun e w' => e = .returned (.bool true) ∧ More w w' := by
  have HN := Lib.hid (fun w1 (m1 : More w w1) => new_hF w w1 m1 [] (fun b hb => by simp at hb) (n : Int) mo src sq st n rfl h1 h2 h3 h4 hq hs)
  have HL := Lib.hid (fun w1 (m1 : More w w1) => large20 v l w1 (sl.keep keepsAct m1))
  rw [hl] at HL
  clear h1 h2 h3 h4 hq hs sl hl
  go_enter Try.func3, Try.ntmps3
  go_wp2_with (first | (go_at_call 9; ((with_reducible refine (awake20 _).mono ?_); rintro e w1 ⟨rfl, m1⟩; have B1 := Lib.hid (blk_more m1 (blk_new w (.cells #[.int .i64 n, .int .i64 mo, .int .u32 src, .int .u16 sq, .int .u32 st] 25))); have M1 : Hid (More w w1) := Lib.hid ((More.alloc _ _).trans m1); have q0 : w1.cell? ⟨w.heap.size, 0, none⟩ = some (.int .i64 n) := blk_cell B1.out 0 rfl; have q1 : w1.cell? ⟨w.heap.size, 1, none⟩ = some (.int .i64 mo) := blk_cell B1.out 1 rfl; have q2 : w1.cell? ⟨w.heap.size, 2, none⟩ = some (.int .u32 src) := blk_cell B1.out 2 rfl; have q3 : w1.cell? ⟨w.heap.size, 3, none⟩ = some (.int .u16 sq) := blk_cell B1.out 3 rfl; have q4 : w1.cell? ⟨w.heap.size, 4, none⟩ = some (.int .u32 st) := blk_cell B1.out 4 rfl; clear m1)) | (go_at_call 10; ((with_reducible refine (HN.out _ M1.out).mono ?_); rintro e w2 ⟨L, rfl, h2, m2⟩; have M2 : Hid (More w w2) := Lib.hid (M1.out.trans m2); clear h2 m2)) | (go_at_call 11; ((with_reducible refine (HL.out _ M2.out).mono ?_); rintro e w3 ⟨rfl, m3⟩; have M3 : Hid (More w w3) := Lib.hid (M2.out.trans m3); clear m3)))
  go_ret
  exact ⟨rfl, M3.out⟩
set_option maxHeartbeats 8000000 in
theorem LaneFates_main (n : Nat) (mo src sq st : Int) (v : Value) (l : List ActS) (w : World) (h1 : 1 ≤ n) (h2 : n ≤ 8) (h3 : 1 ≤ mo) (h4 : mo ≤ 10) (hq : U16 sq) (hs : U32 src) (sl : SlP 16 RAct w v l) (hl : lrgA l = false) :
    Calls Try.prog 3 #[.agg #[.int .i64 n, .int .i64 mo, .int .u32 src, .int .u16 sq, .int .u32 st], v] w fun e w' => e = .returned (.bool true) ∧ More w w' := by
  have HN := Lib.hid (fun w1 (m1 : More w w1) hF => new_hF w w1 m1 [w.heap.size] hF (n : Int) mo src sq st n rfl h1 h2 h3 h4 hq hs)
  have HL := Lib.hid (fun w1 (m1 : More w w1) => large20 v l w1 (sl.keep keepsAct m1))
  rw [hl] at HL
  obtain ⟨oa, cap, rfl, hl63, hel, hok⟩ := acts sl
  have HEL := Lib.hid hel
  have HSM := Lib.hid (lrgA_no hl)
  have HOK := Lib.hid hok
  have hl120 : l.length ≤ 120 := HSM.out.1
  clear h3 h4 hq hs sl hl hel hok
  have hmm := @run_makeMap Try.prog
  go_enter Try.func3, Try.ntmps3
  go_wp2_with (first | (go_at_call 9; ((with_reducible refine (awake20 _).mono ?_); rintro e w1 ⟨rfl, m1⟩; have B1 := Lib.hid (blk_more m1 (blk_new w (.cells #[.int .i64 n, .int .i64 mo, .int .u32 src, .int .u16 sq, .int .u32 st] 25))); have M1 : Hid (More w w1) := Lib.hid ((More.alloc _ _).trans m1); have q0 : w1.cell? ⟨w.heap.size, 0, none⟩ = some (.int .i64 n) := blk_cell B1.out 0 rfl; have q1 : w1.cell? ⟨w.heap.size, 1, none⟩ = some (.int .i64 mo) := blk_cell B1.out 1 rfl; have q2 : w1.cell? ⟨w.heap.size, 2, none⟩ = some (.int .u32 src) := blk_cell B1.out 2 rfl; have q3 : w1.cell? ⟨w.heap.size, 3, none⟩ = some (.int .u16 sq) := blk_cell B1.out 3 rfl; have q4 : w1.cell? ⟨w.heap.size, 4, none⟩ = some (.int .u32 st) := blk_cell B1.out 4 rfl; clear m1)) | (go_at_call 10; ((with_reducible refine (HN.out _ M1.out (fun b hb => (by have := blk_lt B1.out; simp at hb; subst hb; omega))).mono ?_); rintro e w2 ⟨L, rfl, h2, m2⟩; have H2 := Lib.hid h2; have B2 := Lib.hid (blk_more m2 B1.out); clear h2 m2)) | (go_at_call 11; ((with_reducible refine (HL.out _ H2.out.more).mono ?_); rintro e w3 ⟨rfl, m3⟩; have H3 := Lib.hid (H2.out.on m3); have B3 := Lib.hid (blk_more m3 B2.out); clear m3)))
  obtain ⟨W4, hW4⟩ : ∃ W4, w3.alloc (.map #[] 0) = W4 := ⟨_, rfl⟩
  obtain ⟨MB, hMB⟩ : ∃ MB, w3.heap.size = MB := ⟨_, rfl⟩
  have H4 : Hid (LnH w W4 L (newL n mo src sq st) [MB, w.heap.size]) := Lib.hid (by rw [← hW4, ← hMB]; exact H3.out.add (More.alloc _ _) (Nat.le_refl _) (by simp))
  have B4 : Hid (W4.heap[w.heap.size]? = some (.cells #[.int .i64 n, .int .i64 mo, .int .u32 src, .int .u16 sq, .int .u32 st] 25 (0, 0))) := Lib.hid (by rw [← hW4]; exact blk_alloc B3.out _)
  have P4 : Hid (MapAt W4 MB (Value.int .i64) (Value.int .i64) (endM [])) := Lib.hid (by rw [← hW4, ← hMB]; exact MapAt.made w3 _ _)
  have hMB0 : w.heap.size < MB := by rw [← hMB]; exact blk_lt B3.out
  rw [hW4, hMB]
  clear hW4 hMB H3 B3
  go_loopw [8, 9, 41] (fun pu go ix wr => ∃ (j : Nat) (s : LnS) (E : List Int) (p gn : Nat), j ≤ l.length ∧ ix = .int .i64 j ∧ pu = .int .i64 p ∧ go = .int .i64 gn ∧ p ≤ j ∧ s.room = n ∧ s.W.length ≤ j ∧ FInv s E p gn ∧ LnH w wr L s [MB, w.heap.size] ∧ wr.heap[w.heap.size]? = some (.cells #[.int .i64 n, .int .i64 mo, .int .u32 src, .int .u16 sq, .int .u32 st] 25 (0, 0)) ∧ MapAt wr MB (Value.int .i64) (Value.int .i64) (endM E)) (fun _ _ ix _ => l.length - (intOf ix).toNat)
  case atStart => exact ⟨0, _, [], 0, 0, by omega, rfl, rfl, rfl, by omega, rfl, by simp [newL], ⟨by simp [idsP, newL], by simp [idsP, newL], by simp [totP, newL], fun e => (by cases e), fun _ => rfl⟩, H4.out, B4.out, P4.out⟩
  case round =>
    clear H4 B4 P4
    obtain ⟨j, s, E, p, gn, hj, rfl, rfl, rfl, hp, hroom, hW, hinv, hh, hbx, hmp⟩ := hrel
    have HH := Lib.hid hh
    have HB := Lib.hid hbx
    have HMP := Lib.hid hmp
    have HI := Lib.hid hinv
    have HROOM := Lib.hid hroom
    have HW := Lib.hid hW
    clear hh hbx hroom hW hinv hmp
    by_cases hlt : j < l.length
    · obtain ⟨b, off, os, ks, oe, ke, ol, kl, rfl, hb, ht, hs⟩ := HEL.out j hlt
      have HRG := Lib.hid (ht wr HH.out.more)
      have HPS := Lib.hid (fun w' (m : More w w') => hs.keep m)
      have hjl : (j : Int) < (l.length : Int) := by omega
      have hbw : b < wr.heap.size := Nat.lt_of_lt_of_le hb HH.out.more.size
      have HMEM : Hid (l.getD j act0 ∈ l) := Lib.hid (by rw [List.getD_eq_getElem?_getD, List.getElem?_eq_getElem hlt]; exact List.getElem_mem hlt)
      have HPO := Lib.hid (HOK.out _ HMEM.out)
      have HPM := Lib.hid (HSM.out.2 _ HMEM.out)
      have HGD := Lib.hid (List.getD_eq_getElem?_getD (l := l) (i := j) (a := act0))
      clear ht hs
      generalize hact : l.getD j act0 = act at *
      have HACT := Lib.hid hact
      clear hact HGD HMEM
      obtain ⟨d, g, c, x⟩ := act
      have HHX : Hid (LnH w (wr.alloc (.cells #[.int .i64 d, .int .i64 g, .bool c, .int .i64 x.id, .int .i64 x.layer, .bool x.key, .bool x.pk.mr, .int .u8 x.pk.ty, .int .u16 x.pk.sq, .int .u32 x.pk.st, .int .u32 x.pk.sc, .slice os x.pk.ss.length ks, .bool x.pk.has, .int .u16 x.pk.pr, .slice oe x.pk.ex.length ke, .slice ol x.pk.pl.length kl] 43)) L s [wr.heap.size, MB, w.heap.size]) := Lib.hid (HH.out.add (More.alloc _ _) (Nat.le_refl _) (by simp))
      have hMBw : MB < wr.heap.size := HMP.out.lt
      have hB0w : w.heap.size < wr.heap.size := blk_lt HB.out
      go_upto_block 2 with (first | (refine lnIf (.load 43 (.tmp 43)) rfl ?_; refine wpList_load_mid rfl 43 (.tmp 43) rfl b (off + j * 16) rfl [.int .i64 d, .int .i64 g, .bool c, .int .i64 x.id, .int .i64 x.layer, .bool x.key, .bool x.pk.mr, .int .u8 x.pk.ty, .int .u16 x.pk.sq, .int .u32 x.pk.st, .int .u32 x.pk.sc, .slice os x.pk.ss.length ks, .bool x.pk.has, .int .u16 x.pk.pr, .slice oe x.pk.ex.length ke, .slice ol x.pk.pl.length kl] _ HRG.out Try.underlying43 rfl (by kernel_rfl) ?_) | (refine lnIf (.store 43 (.tmp 11) (.tmp 44)) rfl ?_; refine ln_store_new rfl 43 (.tmp 11) (.tmp 44) rfl wr _ #[.int .i64 d, .int .i64 g, .bool c, .int .i64 x.id, .int .i64 x.layer, .bool x.key, .bool x.pk.mr, .int .u8 x.pk.ty, .int .u16 x.pk.sq, .int .u32 x.pk.st, .int .u32 x.pk.sc, .slice os x.pk.ss.length ks, .bool x.pk.has, .int .u16 x.pk.pr, .slice oe x.pk.ex.length ke, .slice ol x.pk.pl.length kl] rfl rfl rfl (by kernel_rfl) rfl rfl ?_) | (go_at_call 12; ((with_reducible refine (lens_h HHX.out).mono ?_); rintro e w5 ⟨rfl, h5, t5⟩; have H5 : Hid (LnH w (w5.alloc (.cells #[.int .i64 s.A.length, .int .i64 s.B.length, .int .i64 s.C.length] 44)) L s [w5.heap.size, wr.heap.size, MB, w.heap.size]) := Lib.hid (h5.add (More.alloc _ (.cells #[.int .i64 s.A.length, .int .i64 s.B.length, .int .i64 s.C.length] 44)) (Nat.le_refl _) (by simp)); have X5 : Hid ((w5.alloc (.cells #[.int .i64 s.A.length, .int .i64 s.B.length, .int .i64 s.C.length] 44)).heap[wr.heap.size]? = some (.cells #[.int .i64 d, .int .i64 g, .bool c, .int .i64 x.id, .int .i64 x.layer, .bool x.key, .bool x.pk.mr, .int .u8 x.pk.ty, .int .u16 x.pk.sq, .int .u32 x.pk.st, .int .u32 x.pk.sc, .slice os x.pk.ss.length ks, .bool x.pk.has, .int .u16 x.pk.pr, .slice oe x.pk.ex.length ke, .slice ol x.pk.pl.length kl] 43 (0, 0))) := Lib.hid (blk_alloc (t5.blk (by simp) (blk_new wr _)) _); have Z5 : Hid ((w5.alloc (.cells #[.int .i64 s.A.length, .int .i64 s.B.length, .int .i64 s.C.length] 44)).heap[w5.heap.size]? = some (.cells #[.int .i64 s.A.length, .int .i64 s.B.length, .int .i64 s.C.length] 44 (0, 0))) := Lib.hid (blk_new w5 _); have BX5 : Hid ((w5.alloc (.cells #[.int .i64 s.A.length, .int .i64 s.B.length, .int .i64 s.C.length] 44)).heap[w.heap.size]? = some (.cells #[.int .i64 n, .int .i64 mo, .int .u32 src, .int .u16 sq, .int .u32 st] 25 (0, 0))) := Lib.hid (blk_alloc (t5.blk (by simp) (blk_alloc HB.out _)) _); have MP5 : Hid (MapAt (w5.alloc (.cells #[.int .i64 s.A.length, .int .i64 s.B.length, .int .i64 s.C.length] 44)) MB (Value.int .i64) (Value.int .i64) (endM E)) := Lib.hid (((HMP.out.more (More.alloc _ _)).same (t5.2 MB (by simp))).more (More.alloc _ _)); have x0 : w5.cell? ⟨wr.heap.size, 0, none⟩ = some (.int .i64 d) := blk_cell (t5.blk (by simp) (blk_new wr _)) 0 rfl; have hx5 : wr.heap.size < w5.heap.size := Nat.lt_of_lt_of_le (by simp) t5.1; clear h5 t5)))
      obtain ⟨W5, hW5⟩ : ∃ W5, w5.alloc (.cells #[.int .i64 s.A.length, .int .i64 s.B.length, .int .i64 s.C.length] 44) = W5 := ⟨_, rfl⟩
      rw [hW5] at H5 X5 Z5 BX5 MP5
      rw [hW5]
      clear hW5 x0
      have hZX : ¬ w5.heap.size = wr.heap.size := by omega
      have hXM : ¬ wr.heap.size = MB := by omega
      have hXB : ¬ wr.heap.size = w.heap.size := by omega
      have hx5' : wr.heap.size < W5.heap.size := blk_lt X5.out
      go_cut [8, 9, 13, 14, 15, 16, 17, 18, 19, 20, 21, 22, 23] from 49 to 122 (fun t8 t9 t13 t14 _ _ _ _ _ _ _ _ _ wx => ∃ (s' : LnS) (e : Bool) (id : Int) (p' gn' : Nat), t8 = .int .i64 p' ∧ t9 = .int .i64 gn' ∧ t13 = .bool e ∧ t14 = .int .i64 id ∧ FStep E p s' e id p' gn' ∧ s'.room = n ∧ s'.W.length ≤ j + 1 ∧ LnH w wx L s' [w5.heap.size, wr.heap.size, MB, w.heap.size] ∧ wx.heap[w.heap.size]? = some (.cells #[.int .i64 n, .int .i64 mo, .int .u32 src, .int .u16 sq, .int .u32 st] 25 (0, 0)) ∧ MapAt wx MB (Value.int .i64) (Value.int .i64) (endM E))
      case first =>
        have h1r : Hid (1 ≤ s.room) := Lib.hid (by rw [HROOM.out]; exact h1)
        by_cases d0 : d = 0
        · subst d0
          have x3 : W5.cell? ⟨wr.heap.size, 3, none⟩ = some (.int .i64 x.id) := blk_cell X5.out 3 rfl
          have y3 : W5.frozen? ⟨wr.heap.size, 3, none⟩ = false := blk_free X5.out 3
          have A6 : Hid (Away (fun b => b = wr.heap.size) W5 (W5.setCell ⟨wr.heap.size, 3, none⟩ (.int .i64 p))) := Lib.hid ((Away.refl (fun b => b = wr.heap.size) W5).set (p := ⟨wr.heap.size, 3, none⟩) rfl _)
          have H6 : Hid (LnH w (W5.setCell ⟨wr.heap.size, 3, none⟩ (.int .i64 p)) L s [w5.heap.size, wr.heap.size, MB, w.heap.size]) := Lib.hid (H5.out.mut (A6.out.mono fun b hb => by rw [hb]; simp))
          have R6 : Hid ((W5.setCell ⟨wr.heap.size, 3, none⟩ (.int .i64 p)).rangeAt wr.heap.size 3 [.int .i64 p, .int .i64 x.layer, .bool x.key, .bool x.pk.mr, .int .u8 x.pk.ty, .int .u16 x.pk.sq, .int .u32 x.pk.st, .int .u32 x.pk.sc, .slice os x.pk.ss.length ks, .bool x.pk.has, .int .u16 x.pk.pr, .slice oe x.pk.ex.length ke, .slice ol x.pk.pl.length kl]) := Lib.hid (ln_cells3 (blk_eq (blk_set X5.out 3 (.int .i64 p)) rfl))
          have B6 := Lib.hid (A6.out.blk BX5.out (fun e => hXB e.symm))
          have M6 := Lib.hid (MP5.out.away A6.out (fun e => hXM e.symm))
          have hfp := fates_put HI.out h1r.out { x with id := (p : Int) } rfl
          have hfr := putP_frame s { x with id := (p : Int) }
          have HPUT := Lib.hid (put_h H6.out { x with id := (p : Int) } os oe ol ks ke kl (HPS.out _ H6.out.more) HPO.out HPM.out)
          obtain ⟨s', old, dr, f, hR⟩ : ∃ s' old dr f, putP s { x with id := (p : Int) } = (s', old, dr, f) := ⟨_, _, _, _, rfl⟩
          rw [hR] at hfp hfr HPUT
          have HFR : Hid (s'.room = n ∧ s'.W.length ≤ j + 1) := Lib.hid ⟨hfr.1.trans HROOM.out, by have := HW.out; have := congrArg List.length hfr.2; simp only at this; omega⟩
          clear hR hfr
          rcases hfp with ⟨hf, hfp⟩ | ⟨hf, hfp⟩
          · have bE : (f == 0) = false := by simpa using hf
            have HF := Lib.hid hfp
            clear hf hfp
            go_wp2_with (first | (refine lnIf (.load 41 (.tmp 56)) rfl ?_; refine wpList_load_mid rfl 41 (.tmp 56) rfl wr.heap.size 3 rfl [.int .i64 p, .int .i64 x.layer, .bool x.key, .bool x.pk.mr, .int .u8 x.pk.ty, .int .u16 x.pk.sq, .int .u32 x.pk.st, .int .u32 x.pk.sc, .slice os x.pk.ss.length ks, .bool x.pk.has, .int .u16 x.pk.pr, .slice oe x.pk.ex.length ke, .slice ol x.pk.pl.length kl] _ R6.out Try.underlying41 rfl (by kernel_rfl) ?_) | (go_at_call 13; ((with_reducible refine (HPUT.out).mono ?_); rintro e w6 ⟨rfl, h6, t6⟩; have H7 := Lib.hid h6; have B7 := Lib.hid (t6.blk (by simp) B6.out); have M7 := Lib.hid (M6.out.same (t6.2 MB (by simp))); clear h6 t6)))
            go_meet
            exact ⟨s', dr, old, p, gn, rfl, rfl, rfl, rfl, HF.out, HFR.out.1, HFR.out.2, H7.out, B7.out, M7.out⟩
          · have bE : (f == 0) = true := by simpa using hf
            have HF := Lib.hid hfp
            clear hf hfp
            go_wp2_with (first | (refine lnIf (.load 41 (.tmp 56)) rfl ?_; refine wpList_load_mid rfl 41 (.tmp 56) rfl wr.heap.size 3 rfl [.int .i64 p, .int .i64 x.layer, .bool x.key, .bool x.pk.mr, .int .u8 x.pk.ty, .int .u16 x.pk.sq, .int .u32 x.pk.st, .int .u32 x.pk.sc, .slice os x.pk.ss.length ks, .bool x.pk.has, .int .u16 x.pk.pr, .slice oe x.pk.ex.length ke, .slice ol x.pk.pl.length kl] _ R6.out Try.underlying41 rfl (by kernel_rfl) ?_) | (go_at_call 13; ((with_reducible refine (HPUT.out).mono ?_); rintro e w6 ⟨rfl, h6, t6⟩; have H7 := Lib.hid h6; have B7 := Lib.hid (t6.blk (by simp) B6.out); have M7 := Lib.hid (M6.out.same (t6.2 MB (by simp))); clear h6 t6)))
            go_meet
            exact ⟨s', dr, old, p + 1, gn, by go_num, rfl, rfl, rfl, HF.out, HFR.out.1, HFR.out.2, H7.out, B7.out, M7.out⟩
        by_cases d1 : d = 1
        · subst d1
          have hfp := fates_choose HI.out
          have hfr := chooseP_frame s
          have HCH := Lib.hid (choose_h H5.out)
          obtain ⟨s', id, f, is, hR⟩ : ∃ s' id f is, chooseP s = (s', id, f, is) := ⟨_, _, _, _, rfl⟩
          rw [hR] at hfp hfr HCH
          have HFR : Hid (s'.room = n ∧ s'.W.length ≤ j + 1) := Lib.hid ⟨hfr.1.trans HROOM.out, by have := HW.out; have := congrArg List.length hfr.2; simp only at this; omega⟩
          have HF := Lib.hid hfp
          clear hR hfr hfp d0
          cases is with
          | false =>
            go_wp2_with (go_at_call 14; ((with_reducible refine (HCH.out).mono ?_); rintro e w6 ⟨rfl, h6, t6⟩; have H7 := Lib.hid h6; have B7 := Lib.hid (t6.blk (by simp) BX5.out); have M7 := Lib.hid (MP5.out.same (t6.2 MB (by simp))); clear h6 t6))
            go_meet
            exact ⟨s', false, id, p, gn, rfl, rfl, rfl, rfl, HF.out, HFR.out.1, HFR.out.2, H7.out, B7.out, M7.out⟩
          | true =>
            go_wp2_with (go_at_call 14; ((with_reducible refine (HCH.out).mono ?_); rintro e w6 ⟨rfl, h6, t6⟩; have H7 := Lib.hid h6; have B7 := Lib.hid (t6.blk (by simp) BX5.out); have M7 := Lib.hid (MP5.out.same (t6.2 MB (by simp))); clear h6 t6))
            go_meet
            exact ⟨s', f != 0, id, p, gn, rfl, rfl, rfl, rfl, by simpa using HF.out, HFR.out.1, HFR.out.2, H7.out, B7.out, M7.out⟩
        by_cases d2 : d = 2
        · subst d2
          have hfp := fates_rewrite HI.out h1r.out
          have hfr := rewriteP_frame s
          have HCH := Lib.hid (rewrite_h H5.out)
          obtain ⟨s', id, f, is, hR⟩ : ∃ s' id f is, rewriteP s = (s', id, f, is) := ⟨_, _, _, _, rfl⟩
          rw [hR] at hfp hfr HCH
          have HFR : Hid (s'.room = n ∧ s'.W.length ≤ j + 1) := Lib.hid ⟨hfr.1.trans HROOM.out, by have := HW.out; have := congrArg List.length hfr.2; simp only at this; omega⟩
          have HF := Lib.hid hfp
          clear hR hfr hfp d0 d1
          go_wp2_with (go_at_call 15; ((with_reducible refine (HCH.out).mono ?_); rintro e w6 ⟨rfl, h6, t6⟩; have H7 := Lib.hid h6; have B7 := Lib.hid (t6.blk (by simp) BX5.out); have M7 := Lib.hid (MP5.out.same (t6.2 MB (by simp))); clear h6 t6))
          go_meet
          exact ⟨s', f, id, p, gn, rfl, rfl, rfl, rfl, HF.out, HFR.out.1, HFR.out.2, H7.out, B7.out, M7.out⟩
        by_cases d3 : d = 3
        · subst d3
          have x2 : W5.cell? ⟨wr.heap.size, 2, none⟩ = some (.bool c) := blk_cell X5.out 2 rfl
          have hfp := fates_write HI.out c
          have hfr := writeP_frame s c
          have HCH := Lib.hid (write_h H5.out (by have := HW.out; omega) c)
          have hft := HH.out.fit
          have hA8 : (s.A.length : Int) ≤ 8 := by omega
          have hB8 : (s.B.length : Int) ≤ 8 := by omega
          have hC8 : (s.C.length : Int) ≤ 8 := by omega
          obtain ⟨s', id, f, is, hR⟩ : ∃ s' id f is, writeP s c = (s', id, f, is) := ⟨_, _, _, _, rfl⟩
          rw [hR] at hfp hfr HCH
          have HFR : Hid (s'.room = n ∧ s'.W.length ≤ j + 1) := Lib.hid ⟨hfr.1.trans HROOM.out, by have := HW.out; have := hfr.2; simp only at this; omega⟩
          clear hR hfr d0 d1 d2 hft
          rcases hfp with ⟨hf, hfp⟩ | ⟨hf, hfp⟩
          · have bE : (f == 7) = false := by simpa using hf
            have HF := Lib.hid hfp
            clear hf hfp
            cases is with
            | false =>
              go_wp2_with (go_at_call 16; ((with_reducible refine (HCH.out).mono ?_); rintro e w6 ⟨rfl, h6, t6⟩; have H7 := Lib.hid h6; have B7 := Lib.hid (t6.blk (by simp) BX5.out); have M7 := Lib.hid (MP5.out.same (t6.2 MB (by simp))); clear h6 t6))
              go_meet
              exact ⟨s', false, id, p, gn, rfl, rfl, rfl, rfl, HF.out, HFR.out.1, HFR.out.2, H7.out, B7.out, M7.out⟩
            | true =>
              go_wp2_with (go_at_call 16; ((with_reducible refine (HCH.out).mono ?_); rintro e w6 ⟨rfl, h6, t6⟩; have H7 := Lib.hid h6; have B7 := Lib.hid (t6.blk (by simp) BX5.out); have M7 := Lib.hid (MP5.out.same (t6.2 MB (by simp))); clear h6 t6))
              go_meet
              exact ⟨s', f == 1, id, p, gn, rfl, rfl, rfl, rfl, by simpa using HF.out, HFR.out.1, HFR.out.2, H7.out, B7.out, M7.out⟩
          · subst hf
            have HF := Lib.hid hfp
            clear hfp
            cases is with
            | false =>
              go_wp2_with (go_at_call 16; ((with_reducible refine (HCH.out).mono ?_); rintro e w6 ⟨rfl, h6, t6⟩; have H7 := Lib.hid h6; have B7 := Lib.hid (t6.blk (by simp) BX5.out); have M7 := Lib.hid (MP5.out.same (t6.2 MB (by simp))); have z0 : w6.cell? ⟨w5.heap.size, 0, none⟩ = some (.int .i64 s.A.length) := blk_cell (t6.blk (by simp) Z5.out) 0 rfl; have z1 : w6.cell? ⟨w5.heap.size, 1, none⟩ = some (.int .i64 s.B.length) := blk_cell (t6.blk (by simp) Z5.out) 1 rfl; have z2 : w6.cell? ⟨w5.heap.size, 2, none⟩ = some (.int .i64 s.C.length) := blk_cell (t6.blk (by simp) Z5.out) 2 rfl; clear h6 t6))
              go_meet
              exact ⟨s', false, id, p, _, rfl, by go_num, rfl, rfl, HF.out, HFR.out.1, HFR.out.2, H7.out, B7.out, M7.out⟩
            | true =>
              go_wp2_with (go_at_call 16; ((with_reducible refine (HCH.out).mono ?_); rintro e w6 ⟨rfl, h6, t6⟩; have H7 := Lib.hid h6; have B7 := Lib.hid (t6.blk (by simp) BX5.out); have M7 := Lib.hid (MP5.out.same (t6.2 MB (by simp))); have z0 : w6.cell? ⟨w5.heap.size, 0, none⟩ = some (.int .i64 s.A.length) := blk_cell (t6.blk (by simp) Z5.out) 0 rfl; have z1 : w6.cell? ⟨w5.heap.size, 1, none⟩ = some (.int .i64 s.B.length) := blk_cell (t6.blk (by simp) Z5.out) 1 rfl; have z2 : w6.cell? ⟨w5.heap.size, 2, none⟩ = some (.int .i64 s.C.length) := blk_cell (t6.blk (by simp) Z5.out) 2 rfl; clear h6 t6))
              go_meet
              exact ⟨s', false, id, p, _, rfl, by go_num, rfl, rfl, HF.out, HFR.out.1, HFR.out.2, H7.out, B7.out, M7.out⟩
        by_cases d4 : d = 4
        · subst d4
          have x4 : W5.cell? ⟨wr.heap.size, 4, none⟩ = some (.int .i64 x.layer) := blk_cell X5.out 4 rfl
          have hfp := fates_want HI.out x.layer 0
          have hfr := wantP_frame s x.layer
          have HCH := Lib.hid (want_h H5.out x.layer)
          obtain ⟨s', f, hR⟩ : ∃ s' f, wantP s x.layer = (s', f) := ⟨_, _, rfl⟩
          rw [hR] at hfp hfr HCH
          have HFR : Hid (s'.room = n ∧ s'.W.length ≤ j + 1) := Lib.hid ⟨hfr.1.trans HROOM.out, by have := HW.out; have := congrArg List.length hfr.2; simp only at this; omega⟩
          have HF := Lib.hid hfp
          clear hR hfr hfp d0 d1 d2 d3
          go_wp2_with (go_at_call 17; ((with_reducible refine (HCH.out).mono ?_); rintro e w6 ⟨rfl, h6, t6⟩; have H7 := Lib.hid h6; have B7 := Lib.hid (t6.blk (by simp) BX5.out); have M7 := Lib.hid (MP5.out.same (t6.2 MB (by simp))); clear h6 t6))
          go_meet
          exact ⟨s', false, 0, p, gn, rfl, rfl, rfl, rfl, HF.out, HFR.out.1, HFR.out.2, H7.out, B7.out, M7.out⟩
        have HF := Lib.hid (fates_no HI.out 0)
        have HFR : Hid (s.room = n ∧ s.W.length ≤ j + 1) := Lib.hid ⟨HROOM.out, by have := HW.out; omega⟩
        go_wp2
        go_meet
        exact ⟨s, false, 0, p, gn, rfl, rfl, rfl, rfl, HF.out, HFR.out.1, HFR.out.2, H5.out, BX5.out, MP5.out⟩
      case rest =>
      obtain ⟨s', e, id, p', gn', rfl, rfl, rfl, rfl, hst, hroom', hW', hh', hbx', hmp'⟩ := hcut
      have HT0 := Lib.hid (hh'.sub (F' := [MB, w.heap.size]) (by simp))
      have BT0 := Lib.hid hbx'
      have MT0 := Lib.hid hmp'
      have HI3 := Lib.hid hst.inv
      have hup := hst.up
      have HFR := Lib.hid hst.fresh
      have HROOM2 := Lib.hid hroom'
      have HW2 := Lib.hid hW'
      clear hst hroom' hW' hh' hbx' hmp' hZX
      cases e with
      | true =>
        obtain ⟨hid0, hid1, hid2⟩ := HFR.out rfl
        have hlk := MT0.out.look keyI64 Try.underlying33 (zero_int wc) id false
        rw [endM_get hid0] at hlk
        simp only [Option.map_none, Option.getD_none, if_false] at hlk
        obtain ⟨w7, hup7, hm7, ha7, hs7⟩ := MT0.out.update keyI64 Try.underlying33 id 1
        rw [endM_put hid0] at hm7
        have hb7 : decide (id < 0) = false := decide_eq_false (by omega)
        have hb8 : decide ((p' : Int) ≤ id) = false := decide_eq_false (by omega)
        have MT := Lib.hid hm7
        have HT : Hid (LnH w w7 L s' [MB, w.heap.size]) := Lib.hid (HT0.out.mut (ha7.mono fun b hb => by rw [hb]; simp))
        have BT := Lib.hid (ha7.blk BT0.out (by omega))
        have HI3 : Hid (FInv s' (E ++ [id]) p' gn') := HI3
        clear hid0 hid1 hid2 hm7 ha7 hs7
        have hln0 := fun (w9 : World) (M9 : MapAt w9 MB (Value.int .i64) (Value.int .i64) (endM (E ++ [id]))) ty => M9.len Try.underlying33 ty
        have HLN := Lib.hid hln0
        clear hln0
        have hE0 : (endM (E ++ [id])).length = (E ++ [id]).length := endM_len _
        have hcnt := HI3.out.cnt
        have hEl : (E ++ [id]).length ≤ 121 := by omega
        have hgl : gn' ≤ 121 := by omega
        have hft := HT.out.fit
        rw [HROOM2.out] at hft
        have hA8 : (s'.A.length : Int) ≤ 8 := by omega
        have hB8 : (s'.B.length : Int) ≤ 8 := by omega
        have hC8 : (s'.C.length : Int) ≤ 8 := by omega
        have hA9 : decide ((n : Int) < (s'.A.length : Int)) = false := decide_eq_false (by omega)
        have hB9 : decide ((n : Int) < (s'.B.length : Int)) = false := decide_eq_false (by omega)
        have hC9 : decide ((n : Int) < (s'.C.length : Int)) = false := decide_eq_false (by omega)
        have hA10 : s'.A.length ≤ n := hft.1
        have hB10 : s'.B.length ≤ n := hft.2.1
        have hC10 : s'.C.length ≤ n := hft.2.2.1
        have hEQ := fun w => len3_neq s'.A.length s'.B.length s'.C.length 0 0 0 w
        obtain ⟨El, hEl2⟩ : ∃ El : Nat, (E ++ [id]).length = El := ⟨_, rfl⟩
        have hsum : ((p' : Int) != (El : Int) + (gn' : Int) + (s'.A.length : Int) + (s'.B.length : Int) + (s'.C.length : Int)) = false := by
          have : (p' : Int) = (El : Int) + (gn' : Int) + (s'.A.length : Int) + (s'.B.length : Int) + (s'.C.length : Int) := by
            unfold totP at hcnt
            omega
          simpa using this
        have hEl3 : El ≤ 121 := by omega
        rw [hEl2] at hE0
        have HE0 := Lib.hid hE0
        have HDEAD := Lib.hid HI3.out.dead
        clear hE0 hEl2 hcnt hEl hft
        obtain ⟨G, hG⟩ : ∃ G, s'.gone = G := ⟨_, rfl⟩
        have HG := Lib.hid hG
        have hEQ2 : G = true → decide ([(s'.A.length : Int), s'.B.length, s'.C.length] = [0, 0, 0]) = true := fun e => by
          have := HDEAD.out (by rw [HG.out]; exact e)
          unfold totP at this
          exact decide_eq_true (by
            have h1 : s'.A.length = 0 := by omega
            have h2 : s'.B.length = 0 := by omega
            have h3 : s'.C.length = 0 := by omega
            rw [h1, h2, h3]; rfl)
        have HEQ2 := Lib.hid hEQ2
        clear hG hEQ2
        cases G with
        | true =>
          rw [HEQ2.out rfl] at hEQ
          go_wp2_with (first | (go_at_call 12; ((with_reducible refine (lens_h HT.out).mono ?_); rintro e w8 ⟨rfl, h8, t8⟩; have H8 : Hid (LnH w (w8.alloc (.cells #[.int .i64 s'.A.length, .int .i64 s'.B.length, .int .i64 s'.C.length] 44)) L s' [w8.heap.size, MB, w.heap.size]) := Lib.hid (h8.add (More.alloc _ (.cells #[.int .i64 s'.A.length, .int .i64 s'.B.length, .int .i64 s'.C.length] 44)) (Nat.le_refl _) (by simp)); have Z8 : Hid ((w8.alloc (.cells #[.int .i64 s'.A.length, .int .i64 s'.B.length, .int .i64 s'.C.length] 44)).heap[w8.heap.size]? = some (.cells #[.int .i64 s'.A.length, .int .i64 s'.B.length, .int .i64 s'.C.length] 44 (0, 0))) := Lib.hid (blk_new w8 _); have B8 : Hid ((w8.alloc (.cells #[.int .i64 s'.A.length, .int .i64 s'.B.length, .int .i64 s'.C.length] 44)).heap[w.heap.size]? = some (.cells #[.int .i64 n, .int .i64 mo, .int .u32 src, .int .u16 sq, .int .u32 st] 25 (0, 0))) := Lib.hid (blk_alloc (t8.blk (by simp) BT.out) _); have M8 : Hid (MapAt (w8.alloc (.cells #[.int .i64 s'.A.length, .int .i64 s'.B.length, .int .i64 s'.C.length] 44)) MB (Value.int .i64) (Value.int .i64) (endM (E ++ [id]))) := Lib.hid ((MT.out.same (t8.2 MB (by simp))).more (More.alloc _ _)); have hln := HLN.out _ M8.out; rw [HE0.out] at hln; clear h8 t8)) | (go_at_call 18; ((with_reducible refine (gone_h H8.out).mono ?_); rintro e w9 ⟨rfl, h9, t9⟩; rw [HG.out]; have H9 := Lib.hid (h9.sub (F' := [MB, w.heap.size]) (by simp)); have B9 := Lib.hid (t9.blk (by simp) B8.out); have M9 := Lib.hid (M8.out.same (t9.2 MB (by simp))); have b0 : w9.cell? ⟨w.heap.size, 0, none⟩ = some (.int .i64 n) := blk_cell B9.out 0 rfl; have z0 : w9.cell? ⟨w8.heap.size, 0, none⟩ = some (.int .i64 s'.A.length) := blk_cell (t9.blk (by simp) Z8.out) 0 rfl; have z1 : w9.cell? ⟨w8.heap.size, 1, none⟩ = some (.int .i64 s'.B.length) := blk_cell (t9.blk (by simp) Z8.out) 1 rfl; have z2 : w9.cell? ⟨w8.heap.size, 2, none⟩ = some (.int .i64 s'.C.length) := blk_cell (t9.blk (by simp) Z8.out) 2 rfl; clear h9 t9)))
          go_roundw
          case rel => exact ⟨j + 1, s', _, p', gn', by omega, by go_num, rfl, rfl, by omega, HROOM2.out, HW2.out, HI3.out, H9.out, B9.out, M9.out⟩
          case measure => simp [intOf]; omega
        | false =>
          go_wp2_with (first | (go_at_call 12; ((with_reducible refine (lens_h HT.out).mono ?_); rintro e w8 ⟨rfl, h8, t8⟩; have H8 : Hid (LnH w (w8.alloc (.cells #[.int .i64 s'.A.length, .int .i64 s'.B.length, .int .i64 s'.C.length] 44)) L s' [w8.heap.size, MB, w.heap.size]) := Lib.hid (h8.add (More.alloc _ (.cells #[.int .i64 s'.A.length, .int .i64 s'.B.length, .int .i64 s'.C.length] 44)) (Nat.le_refl _) (by simp)); have Z8 : Hid ((w8.alloc (.cells #[.int .i64 s'.A.length, .int .i64 s'.B.length, .int .i64 s'.C.length] 44)).heap[w8.heap.size]? = some (.cells #[.int .i64 s'.A.length, .int .i64 s'.B.length, .int .i64 s'.C.length] 44 (0, 0))) := Lib.hid (blk_new w8 _); have B8 : Hid ((w8.alloc (.cells #[.int .i64 s'.A.length, .int .i64 s'.B.length, .int .i64 s'.C.length] 44)).heap[w.heap.size]? = some (.cells #[.int .i64 n, .int .i64 mo, .int .u32 src, .int .u16 sq, .int .u32 st] 25 (0, 0))) := Lib.hid (blk_alloc (t8.blk (by simp) BT.out) _); have M8 : Hid (MapAt (w8.alloc (.cells #[.int .i64 s'.A.length, .int .i64 s'.B.length, .int .i64 s'.C.length] 44)) MB (Value.int .i64) (Value.int .i64) (endM (E ++ [id]))) := Lib.hid ((MT.out.same (t8.2 MB (by simp))).more (More.alloc _ _)); have hln := HLN.out _ M8.out; rw [HE0.out] at hln; clear h8 t8)) | (go_at_call 18; ((with_reducible refine (gone_h H8.out).mono ?_); rintro e w9 ⟨rfl, h9, t9⟩; rw [HG.out]; have H9 := Lib.hid (h9.sub (F' := [MB, w.heap.size]) (by simp)); have B9 := Lib.hid (t9.blk (by simp) B8.out); have M9 := Lib.hid (M8.out.same (t9.2 MB (by simp))); have b0 : w9.cell? ⟨w.heap.size, 0, none⟩ = some (.int .i64 n) := blk_cell B9.out 0 rfl; have z0 : w9.cell? ⟨w8.heap.size, 0, none⟩ = some (.int .i64 s'.A.length) := blk_cell (t9.blk (by simp) Z8.out) 0 rfl; have z1 : w9.cell? ⟨w8.heap.size, 1, none⟩ = some (.int .i64 s'.B.length) := blk_cell (t9.blk (by simp) Z8.out) 1 rfl; have z2 : w9.cell? ⟨w8.heap.size, 2, none⟩ = some (.int .i64 s'.C.length) := blk_cell (t9.blk (by simp) Z8.out) 2 rfl; clear h9 t9)))
          go_roundw
          case rel => exact ⟨j + 1, s', _, p', gn', by omega, by go_num, rfl, rfl, by omega, HROOM2.out, HW2.out, HI3.out, H9.out, B9.out, M9.out⟩
          case measure => simp [intOf]; omega

      | false =>
        have HT := HT0
        have BT := BT0
        have MT := MT0
        have HI3 : Hid (FInv s' E p' gn') := HI3
        have hln0 := fun (w9 : World) (M9 : MapAt w9 MB (Value.int .i64) (Value.int .i64) (endM (E))) ty => M9.len Try.underlying33 ty
        have HLN := Lib.hid hln0
        clear hln0
        have hE0 : (endM (E)).length = (E).length := endM_len _
        have hcnt := HI3.out.cnt
        have hEl : (E).length ≤ 121 := by omega
        have hgl : gn' ≤ 121 := by omega
        have hft := HT.out.fit
        rw [HROOM2.out] at hft
        have hA8 : (s'.A.length : Int) ≤ 8 := by omega
        have hB8 : (s'.B.length : Int) ≤ 8 := by omega
        have hC8 : (s'.C.length : Int) ≤ 8 := by omega
        have hA9 : decide ((n : Int) < (s'.A.length : Int)) = false := decide_eq_false (by omega)
        have hB9 : decide ((n : Int) < (s'.B.length : Int)) = false := decide_eq_false (by omega)
        have hC9 : decide ((n : Int) < (s'.C.length : Int)) = false := decide_eq_false (by omega)
        have hA10 : s'.A.length ≤ n := hft.1
        have hB10 : s'.B.length ≤ n := hft.2.1
        have hC10 : s'.C.length ≤ n := hft.2.2.1
        have hEQ := fun w => len3_neq s'.A.length s'.B.length s'.C.length 0 0 0 w
        obtain ⟨El, hEl2⟩ : ∃ El : Nat, (E).length = El := ⟨_, rfl⟩
        have hsum : ((p' : Int) != (El : Int) + (gn' : Int) + (s'.A.length : Int) + (s'.B.length : Int) + (s'.C.length : Int)) = false := by
          have : (p' : Int) = (El : Int) + (gn' : Int) + (s'.A.length : Int) + (s'.B.length : Int) + (s'.C.length : Int) := by
            unfold totP at hcnt
            omega
          simpa using this
        have hEl3 : El ≤ 121 := by omega
        rw [hEl2] at hE0
        have HE0 := Lib.hid hE0
        have HDEAD := Lib.hid HI3.out.dead
        clear hE0 hEl2 hcnt hEl hft
        obtain ⟨G, hG⟩ : ∃ G, s'.gone = G := ⟨_, rfl⟩
        have HG := Lib.hid hG
        have hEQ2 : G = true → decide ([(s'.A.length : Int), s'.B.length, s'.C.length] = [0, 0, 0]) = true := fun e => by
          have := HDEAD.out (by rw [HG.out]; exact e)
          unfold totP at this
          exact decide_eq_true (by
            have h1 : s'.A.length = 0 := by omega
            have h2 : s'.B.length = 0 := by omega
            have h3 : s'.C.length = 0 := by omega
            rw [h1, h2, h3]; rfl)
        have HEQ2 := Lib.hid hEQ2
        clear hG hEQ2
        cases G with
        | true =>
          rw [HEQ2.out rfl] at hEQ
          go_wp2_with (first | (go_at_call 12; ((with_reducible refine (lens_h HT.out).mono ?_); rintro e w8 ⟨rfl, h8, t8⟩; have H8 : Hid (LnH w (w8.alloc (.cells #[.int .i64 s'.A.length, .int .i64 s'.B.length, .int .i64 s'.C.length] 44)) L s' [w8.heap.size, MB, w.heap.size]) := Lib.hid (h8.add (More.alloc _ (.cells #[.int .i64 s'.A.length, .int .i64 s'.B.length, .int .i64 s'.C.length] 44)) (Nat.le_refl _) (by simp)); have Z8 : Hid ((w8.alloc (.cells #[.int .i64 s'.A.length, .int .i64 s'.B.length, .int .i64 s'.C.length] 44)).heap[w8.heap.size]? = some (.cells #[.int .i64 s'.A.length, .int .i64 s'.B.length, .int .i64 s'.C.length] 44 (0, 0))) := Lib.hid (blk_new w8 _); have B8 : Hid ((w8.alloc (.cells #[.int .i64 s'.A.length, .int .i64 s'.B.length, .int .i64 s'.C.length] 44)).heap[w.heap.size]? = some (.cells #[.int .i64 n, .int .i64 mo, .int .u32 src, .int .u16 sq, .int .u32 st] 25 (0, 0))) := Lib.hid (blk_alloc (t8.blk (by simp) BT.out) _); have M8 : Hid (MapAt (w8.alloc (.cells #[.int .i64 s'.A.length, .int .i64 s'.B.length, .int .i64 s'.C.length] 44)) MB (Value.int .i64) (Value.int .i64) (endM (E))) := Lib.hid ((MT.out.same (t8.2 MB (by simp))).more (More.alloc _ _)); have hln := HLN.out _ M8.out; rw [HE0.out] at hln; clear h8 t8)) | (go_at_call 18; ((with_reducible refine (gone_h H8.out).mono ?_); rintro e w9 ⟨rfl, h9, t9⟩; rw [HG.out]; have H9 := Lib.hid (h9.sub (F' := [MB, w.heap.size]) (by simp)); have B9 := Lib.hid (t9.blk (by simp) B8.out); have M9 := Lib.hid (M8.out.same (t9.2 MB (by simp))); have b0 : w9.cell? ⟨w.heap.size, 0, none⟩ = some (.int .i64 n) := blk_cell B9.out 0 rfl; have z0 : w9.cell? ⟨w8.heap.size, 0, none⟩ = some (.int .i64 s'.A.length) := blk_cell (t9.blk (by simp) Z8.out) 0 rfl; have z1 : w9.cell? ⟨w8.heap.size, 1, none⟩ = some (.int .i64 s'.B.length) := blk_cell (t9.blk (by simp) Z8.out) 1 rfl; have z2 : w9.cell? ⟨w8.heap.size, 2, none⟩ = some (.int .i64 s'.C.length) := blk_cell (t9.blk (by simp) Z8.out) 2 rfl; clear h9 t9)))
          go_roundw
          case rel => exact ⟨j + 1, s', _, p', gn', by omega, by go_num, rfl, rfl, by omega, HROOM2.out, HW2.out, HI3.out, H9.out, B9.out, M9.out⟩
          case measure => simp [intOf]; omega
        | false =>
          go_wp2_with (first | (go_at_call 12; ((with_reducible refine (lens_h HT.out).mono ?_); rintro e w8 ⟨rfl, h8, t8⟩; have H8 : Hid (LnH w (w8.alloc (.cells #[.int .i64 s'.A.length, .int .i64 s'.B.length, .int .i64 s'.C.length] 44)) L s' [w8.heap.size, MB, w.heap.size]) := Lib.hid (h8.add (More.alloc _ (.cells #[.int .i64 s'.A.length, .int .i64 s'.B.length, .int .i64 s'.C.length] 44)) (Nat.le_refl _) (by simp)); have Z8 : Hid ((w8.alloc (.cells #[.int .i64 s'.A.length, .int .i64 s'.B.length, .int .i64 s'.C.length] 44)).heap[w8.heap.size]? = some (.cells #[.int .i64 s'.A.length, .int .i64 s'.B.length, .int .i64 s'.C.length] 44 (0, 0))) := Lib.hid (blk_new w8 _); have B8 : Hid ((w8.alloc (.cells #[.int .i64 s'.A.length, .int .i64 s'.B.length, .int .i64 s'.C.length] 44)).heap[w.heap.size]? = some (.cells #[.int .i64 n, .int .i64 mo, .int .u32 src, .int .u16 sq, .int .u32 st] 25 (0, 0))) := Lib.hid (blk_alloc (t8.blk (by simp) BT.out) _); have M8 : Hid (MapAt (w8.alloc (.cells #[.int .i64 s'.A.length, .int .i64 s'.B.length, .int .i64 s'.C.length] 44)) MB (Value.int .i64) (Value.int .i64) (endM (E))) := Lib.hid ((MT.out.same (t8.2 MB (by simp))).more (More.alloc _ _)); have hln := HLN.out _ M8.out; rw [HE0.out] at hln; clear h8 t8)) | (go_at_call 18; ((with_reducible refine (gone_h H8.out).mono ?_); rintro e w9 ⟨rfl, h9, t9⟩; rw [HG.out]; have H9 := Lib.hid (h9.sub (F' := [MB, w.heap.size]) (by simp)); have B9 := Lib.hid (t9.blk (by simp) B8.out); have M9 := Lib.hid (M8.out.same (t9.2 MB (by simp))); have b0 : w9.cell? ⟨w.heap.size, 0, none⟩ = some (.int .i64 n) := blk_cell B9.out 0 rfl; have z0 : w9.cell? ⟨w8.heap.size, 0, none⟩ = some (.int .i64 s'.A.length) := blk_cell (t9.blk (by simp) Z8.out) 0 rfl; have z1 : w9.cell? ⟨w8.heap.size, 1, none⟩ = some (.int .i64 s'.B.length) := blk_cell (t9.blk (by simp) Z8.out) 1 rfl; have z2 : w9.cell? ⟨w8.heap.size, 2, none⟩ = some (.int .i64 s'.C.length) := blk_cell (t9.blk (by simp) Z8.out) 2 rfl; clear h9 t9)))
          go_roundw
          case rel => exact ⟨j + 1, s', _, p', gn', by omega, by go_num, rfl, rfl, by omega, HROOM2.out, HW2.out, HI3.out, H9.out, B9.out, M9.out⟩
          case measure => simp [intOf]; omega

    · obtain rfl : j = l.length := by omega
      have hnl : ¬ (l.length : Int) < (l.length : Int) := by omega
      go_wp2
      go_ret
      exact ⟨rfl, HH.out.more⟩
/-- The law. -/
theorem LaneFates_law (cs : Array Value) (c : CfS) (v : Value) (l : List ActS) (w : World) (hc : RCfg w cs.toList c) (sl : SlP 16 RAct w v l) :
    Calls Try.prog 3 #[.agg cs, v] w fun e w' => e = .returned (.bool true) ∧ More w w' := by
  obtain ⟨hcs, h1, h2, h3⟩ := hc
  obtain ⟨m, mo, src, sq, st⟩ := c
  obtain rfl : cs = #[.int .i64 m, .int .i64 mo, .int .u32 src, .int .u16 sq, .int .u32 st] := by
    cases cs
    simpa using hcs
  cases hB : cfgB m mo with
  | false =>
    obtain ⟨oa, cap, rfl, _⟩ := acts sl
    exact LaneFates_bad m mo src sq st oa l.length cap w hB
  | true =>
    have hB := of_decide_eq_true hB
    obtain ⟨n, rfl⟩ : ∃ n : Nat, m = n := ⟨m.toNat, by omega⟩
    cases hl : lrgA l with
    | true => exact LaneFates_large n mo src sq st _ l w (by omega) (by omega) (by omega) (by omega) h2 h1 sl hl
    | false => exact LaneFates_main n mo src sq st _ l w (by omega) (by omega) (by omega) (by omega) h2 h1 sl hl
end Go.Proofs.Ytdgmmffedhikcaa
