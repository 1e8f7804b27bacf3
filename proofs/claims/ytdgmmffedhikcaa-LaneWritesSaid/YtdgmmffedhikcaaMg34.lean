/- Merged from my texts LaneWa. -/
import Derived.Test.YtdgmmffedhikcaaMg30
import Derived.Test.YtdgmmffedhikcaaMg33
import Derived.Deep.Cut
import Derived.Deep.CutRange
import Derived.Deep.CutBlock
/- The law LaneWrites of lane, walked. (printed by gen_laneWa.py) -/
namespace Go.Proofs.Ytdgmmffedhikcaa
set_option linter.unusedSimpArgs false
set_option linter.unusedVariables false
open Go.RowKit
set_option maxRecDepth 100000

theorem RangeAt.laterM {w w' : World} {b o : Nat} {cs : List Value} (h : w.rangeAt b o cs) (m : More w w') (hb : b < w.heap.size) : w'.rangeAt b o cs := fun j v hv => by
  rw [m.cells b _ hb]
  exact h j v hv
theorem packet20 (p : Pk) (vs ve vp : Value) (w : World) (h : PkS w vs ve vp p) :
    Calls Try.prog 26 #[.agg #[.bool p.mr, .int .u8 p.ty, .int .u16 p.sq, .int .u32 p.st, .int .u32 p.sc, vs, .bool p.has, .int .u16 p.pr, ve, vp]] w fun e w' => e = .returned (.agg #[.bool p.mr, .int .u8 p.ty, .int .u16 p.sq, .int .u32 p.st, .int .u32 p.sc, vs, .bool p.has, .int .u16 p.pr, ve, vp]) ∧ More w w' := by
  obtain ⟨⟨os, ks, rfl, -⟩, ⟨oe, ke, rfl, -⟩, ⟨ol, kl, rfl, -⟩⟩ := h
  obtain ⟨mr, ty, sq, st, sc, ss, has, pr, ex, pl⟩ := p
  simp only
  go_enter Try.func26, Try.ntmps26
  go_wp2
  (refine bodyPost_ret (v := .agg #[.bool mr, .int .u8 ty, .int .u16 sq, .int .u32 st, .int .u32 sc, (.slice os ss.length ks), .bool has, .int .u16 pr, (.slice oe ex.length ke), (.slice ol pl.length kl)]) ?rr1 rfl ?_; (case rr1 => (simp [results, Try.results26, go_sem])))
  exact ⟨rfl, (More.alloc _ _).al _⟩
set_option maxHeartbeats 2000000 in
theorem LaneWrites_bad (m mo src sq st : Int) (oa : Option Addr) (n cap : Nat) (w : World) (h : cfgB m mo = false) :
    Calls Try.prog 6 #[.agg #[.int .i64 m, .int .i64 mo, .int .u32 src, .int .u16 sq, .int .u32 st], .slice oa n cap] w fun e w' => e = .returned (.bool true) ∧ More w w' := by
  have HB := Lib.hid (new_bad m mo src sq st h)
  clear h
  go_enter Try.func6, Try.ntmps6
  go_wp2_with (first | (go_at_call 9; ((with_reducible refine (awake20 _).mono ?_); rintro e w1 ⟨rfl, m1⟩; have B1 := Lib.hid (blk_more m1 (blk_new w (.cells #[.int .i64 m, .int .i64 mo, .int .u32 src, .int .u16 sq, .int .u32 st] 25))); have M1 : Hid (More w w1) := Lib.hid ((More.alloc _ _).trans m1); have q0 : w1.cell? ⟨w.heap.size, 0, none⟩ = some (.int .i64 m) := blk_cell B1.out 0 rfl; have q1 : w1.cell? ⟨w.heap.size, 1, none⟩ = some (.int .i64 mo) := blk_cell B1.out 1 rfl; have q2 : w1.cell? ⟨w.heap.size, 2, none⟩ = some (.int .u32 src) := blk_cell B1.out 2 rfl; have q3 : w1.cell? ⟨w.heap.size, 3, none⟩ = some (.int .u16 sq) := blk_cell B1.out 3 rfl; have q4 : w1.cell? ⟨w.heap.size, 4, none⟩ = some (.int .u32 st) := blk_cell B1.out 4 rfl; clear m1)) | (go_at_call 10; ((with_reducible refine (HB.out _).mono ?_); rintro e w2 ⟨rfl, m2⟩; have M2 : Hid (More w w2) := Lib.hid (M1.out.trans m2); clear m2)))
  go_ret
  exact ⟨rfl, M2.out⟩
set_option maxHeartbeats 2000000 in
theorem LaneWrites_large (n : Nat) (mo src sq st : Int) (v : Value) (l : List ActS) (w : World) (h1 : 1 ≤ n) (h2 : n ≤ 8) (h3 : 1 ≤ mo) (h4 : mo ≤ 10) (hq : U16 sq) (hs : U32 src) (sl : SlP 16 RAct w v l) (hl : lrgA l = true) :
    Calls Try.prog 6 #[.agg #[.int .i64 n, .int .i64 mo, .int .u32 src, .int .u16 sq, .int .u32 st], v] w fun e w' => e = .returned (.bool true) ∧ More w w' := by
  have HN := Lib.hid (fun w1 (m1 : More w w1) => new_hF w w1 m1 [] (fun b hb => by simp at hb) (n : Int) mo src sq st n rfl h1 h2 h3 h4 hq hs)
  have HL := Lib.hid (fun w1 (m1 : More w w1) => large20 v l w1 (sl.keep keepsAct m1))
  rw [hl] at HL
  clear h1 h2 h3 h4 hq hs sl hl
  go_enter Try.func6, Try.ntmps6
  go_wp2_with (first | (go_at_call 9; ((with_reducible refine (awake20 _).mono ?_); rintro e w1 ⟨rfl, m1⟩; have B1 := Lib.hid (blk_more m1 (blk_new w (.cells #[.int .i64 n, .int .i64 mo, .int .u32 src, .int .u16 sq, .int .u32 st] 25))); have M1 : Hid (More w w1) := Lib.hid ((More.alloc _ _).trans m1); have q0 : w1.cell? ⟨w.heap.size, 0, none⟩ = some (.int .i64 n) := blk_cell B1.out 0 rfl; have q1 : w1.cell? ⟨w.heap.size, 1, none⟩ = some (.int .i64 mo) := blk_cell B1.out 1 rfl; have q2 : w1.cell? ⟨w.heap.size, 2, none⟩ = some (.int .u32 src) := blk_cell B1.out 2 rfl; have q3 : w1.cell? ⟨w.heap.size, 3, none⟩ = some (.int .u16 sq) := blk_cell B1.out 3 rfl; have q4 : w1.cell? ⟨w.heap.size, 4, none⟩ = some (.int .u32 st) := blk_cell B1.out 4 rfl; clear m1)) | (go_at_call 10; ((with_reducible refine (HN.out _ M1.out).mono ?_); rintro e w2 ⟨L, rfl, h2, m2⟩; have M2 : Hid (More w w2) := Lib.hid (M1.out.trans m2); clear h2 m2)) | (go_at_call 11; ((with_reducible refine (HL.out _ M2.out).mono ?_); rintro e w3 ⟨rfl, m3⟩; have M3 : Hid (More w w3) := Lib.hid (M2.out.trans m3); clear m3)))
  go_ret
  exact ⟨rfl, M3.out⟩
set_option maxHeartbeats 40000000 in
theorem LaneWrites_main (n : Nat) (mo src sq st : Int) (v : Value) (l : List ActS) (w : World) (h1 : 1 ≤ n) (h2 : n ≤ 8) (h3 : 1 ≤ mo) (h4 : mo ≤ 10) (hq : U16 sq) (hs : U32 src) (sl : SlP 16 RAct w v l) (hl : lrgA l = false) :
    Calls Try.prog 6 #[.agg #[.int .i64 n, .int .i64 mo, .int .u32 src, .int .u16 sq, .int .u32 st], v] w fun e w' => e = .returned (.bool true) ∧ More w w' := by
  have HN := Lib.hid (fun w1 (m1 : More w w1) hF => new_hF w w1 m1 [w.heap.size] hF (n : Int) mo src sq st n rfl h1 h2 h3 h4 hq hs)
  have HL := Lib.hid (fun w1 (m1 : More w w1) => large20 v l w1 (sl.keep keepsAct m1))
  rw [hl] at HL
  obtain ⟨oa, cap, rfl, hl63, hel, hok⟩ := acts sl
  have HEL := Lib.hid hel
  have HSM := Lib.hid (lrgA_no hl)
  have HOK := Lib.hid hok
  have hl120 : l.length ≤ 120 := HSM.out.1
  clear h3 h4 hq hs sl hl hel hok
  go_enter Try.func6, Try.ntmps6
  go_wp2_with (first | (go_at_call 9; ((with_reducible refine (awake20 _).mono ?_); rintro e w1 ⟨rfl, m1⟩; have B1 := Lib.hid (blk_more m1 (blk_new w (.cells #[.int .i64 n, .int .i64 mo, .int .u32 src, .int .u16 sq, .int .u32 st] 25))); have M1 : Hid (More w w1) := Lib.hid ((More.alloc _ _).trans m1); have q0 : w1.cell? ⟨w.heap.size, 0, none⟩ = some (.int .i64 n) := blk_cell B1.out 0 rfl; have q1 : w1.cell? ⟨w.heap.size, 1, none⟩ = some (.int .i64 mo) := blk_cell B1.out 1 rfl; have q2 : w1.cell? ⟨w.heap.size, 2, none⟩ = some (.int .u32 src) := blk_cell B1.out 2 rfl; have q3 : w1.cell? ⟨w.heap.size, 3, none⟩ = some (.int .u16 sq) := blk_cell B1.out 3 rfl; have q4 : w1.cell? ⟨w.heap.size, 4, none⟩ = some (.int .u32 st) := blk_cell B1.out 4 rfl; clear m1)) | (go_at_call 10; ((with_reducible refine (HN.out _ M1.out (fun b hb => (by have := blk_lt B1.out; simp at hb; subst hb; omega))).mono ?_); rintro e w2 ⟨L, rfl, h2, m2⟩; have H2 := Lib.hid h2; have B2 := Lib.hid (blk_more m2 B1.out); clear h2 m2)) | (go_at_call 11; ((with_reducible refine (HL.out _ H2.out.more).mono ?_); rintro e w3 ⟨rfl, m3⟩; have H3 := Lib.hid (H2.out.on m3); have B3 := Lib.hid (blk_more m3 B2.out); clear m3)))
  obtain ⟨i0, hi, hz0, hz1, hz2⟩ := info_parts (P := Try.prog) (e := 41) (z := .agg #[.int .i64 0, .int .i64 0, .bool false, .bool false, .int .u8 0, .int .u16 0, .int .u32 0, .int .u32 0, .slice none 0 0, .bool false, .int .u16 0, .slice none 0 0, .slice none 0 0]) (size := 13) (bytes := 120) (by kernel_rfl)
  have HSQ : Hid (U16 sq) := Lib.hid H3.out.ok.sq
  have HSRC : Hid (U32 src) := Lib.hid H3.out.ok.src
  go_loopw [7, 31] (fun pv ix wr => ∃ (j : Nat) (s : LnS) (P : List ItS) (F : List Nat), j ≤ l.length ∧ ix = .int .i64 j ∧ P.length ≤ j ∧ s.W.length ≤ j ∧ WInv src s P ∧ LnH w wr L s F ∧ PutAt w wr pv P F ∧ w.heap.size ∈ F ∧ wr.heap[w.heap.size]? = some (.cells #[.int .i64 n, .int .i64 mo, .int .u32 src, .int .u16 sq, .int .u32 st] 25 (0, 0)) ∧ pv.ownBlock ≠ some w.heap.size) (fun _ ix _ => l.length - (intOf ix).toNat)
  case atStart => exact ⟨0, _, [], _, by omega, rfl, by simp, by simp [newL], ⟨⟨fun x hx => by simp [newL] at hx, fun x hx => by simp [newL] at hx, fun hx => absurd rfl hx⟩, rfl, HSQ.out, by simp [seqP, newL], fun i hi => by simp [seqP, newL] at hi, fun o ho => by simp [newL] at ho, fun x hx => by simp [newL] at hx, fun x hx => by simp [newL] at hx⟩, H3.out, PutAt.nil _ _ _, by simp, B3.out, by simp [Value.ownBlock]⟩
  case round =>
    obtain ⟨j, s, P, F, hj, rfl, hP, hW, hinv, hh, hput, hbf, hbc, hne⟩ := hrel
    have HH := Lib.hid hh
    have HP := Lib.hid hput
    have HI := Lib.hid hinv
    have HW := Lib.hid hW
    have HBF := Lib.hid hbf
    have HBC0 := Lib.hid hbc
    obtain ⟨ov, cv, rfl⟩ := hput.shape
    have HNE := Lib.hid hne
    clear hh hinv hW hput hbf hbc hne
    by_cases hlt : j < l.length
    · obtain ⟨b, off, os, ks, oe, ke, ol, kl, rfl, hb, ht, hs⟩ := HEL.out j hlt
      have HRG := Lib.hid (ht wr HH.out.more)
      have HPS := Lib.hid (fun w' (m : More w w') => hs.keep m)
      have hjl : (j : Int) < (l.length : Int) := by omega
      have hbw : b < wr.heap.size := Nat.lt_of_lt_of_le hb HH.out.more.size
      have HMEM : Hid (l.getD j act0 ∈ l) := Lib.hid (by rw [List.getD_eq_getElem?_getD, List.getElem?_eq_getElem hlt]; exact List.getElem_mem hlt)
      have HPO := Lib.hid (HOK.out _ HMEM.out)
      have HPM := Lib.hid (HSM.out.2 _ HMEM.out)
      have HGD := Lib.hid (List.getD_eq_getElem?_getD (l := l) (i := j) (a := act0))
      clear ht hs
      generalize hact : l.getD j act0 = act at *
      have HACT := Lib.hid hact
      clear hact HGD HMEM
      obtain ⟨d, g, c, x⟩ := act
      have hps := HI.out.do ⟨d, g, c, x⟩
      have hfr := doP_frame s ⟨d, g, c, x⟩ P.length
      obtain ⟨s', b', hR⟩ : ∃ s' b', doP s ⟨d, g, c, x⟩ P.length = (s', b') := ⟨_, _, rfl⟩
      rw [hR] at hfr hps
      have HR := Lib.hid hR
      have HPS2 := Lib.hid hps
      have HFR : Hid (s'.W.length ≤ j + 1) := Lib.hid (by have := HW.out; have := hfr.2; simp only at this; omega)
      have HDX : Hid (LnH w (wr.alloc (.cells #[.int .i64 d, .int .i64 g, .bool c, .int .i64 x.id, .int .i64 x.layer, .bool x.key, .bool x.pk.mr, .int .u8 x.pk.ty, .int .u16 x.pk.sq, .int .u32 x.pk.st, .int .u32 x.pk.sc, .slice os x.pk.ss.length ks, .bool x.pk.has, .int .u16 x.pk.pr, .slice oe x.pk.ex.length ke, .slice ol x.pk.pl.length kl] 43)) L s (wr.heap.size :: F)) := Lib.hid (HH.out.add (More.alloc _ _) (Nat.le_refl _) (by simp))
      have HPX : Hid (PutAt w (wr.alloc (.cells #[.int .i64 d, .int .i64 g, .bool c, .int .i64 x.id, .int .i64 x.layer, .bool x.key, .bool x.pk.mr, .int .u8 x.pk.ty, .int .u16 x.pk.sq, .int .u32 x.pk.st, .int .u32 x.pk.sc, .slice os x.pk.ss.length ks, .bool x.pk.has, .int .u16 x.pk.pr, .slice oe x.pk.ex.length ke, .slice ol x.pk.pl.length kl] 43)) (.slice ov P.length cv) P (wr.heap.size :: F)) := Lib.hid ((HP.out.more (More.alloc _ _)).grow (fun b hb => List.mem_cons_of_mem _ hb))
      have HBC := Lib.hid (blk_alloc HBC0.out (.cells #[.int .i64 d, .int .i64 g, .bool c, .int .i64 x.id, .int .i64 x.layer, .bool x.key, .bool x.pk.mr, .int .u8 x.pk.ty, .int .u16 x.pk.sq, .int .u32 x.pk.st, .int .u32 x.pk.sc, .slice os x.pk.ss.length ks, .bool x.pk.has, .int .u16 x.pk.pr, .slice oe x.pk.ex.length ke, .slice ol x.pk.pl.length kl] 43))
      have HDO := Lib.hid (do_h HDX.out (by have := HW.out; omega) d g c x P.length os oe ol ks ke kl (HPS.out _ (HH.out.more.trans (More.alloc _ _))) HPO.out HPM.out)
      have HBX := Lib.hid (blk_new wr (.cells #[.int .i64 d, .int .i64 g, .bool c, .int .i64 x.id, .int .i64 x.layer, .bool x.key, .bool x.pk.mr, .int .u8 x.pk.ty, .int .u16 x.pk.sq, .int .u32 x.pk.st, .int .u32 x.pk.sc, .slice os x.pk.ss.length ks, .bool x.pk.has, .int .u16 x.pk.pr, .slice oe x.pk.ex.length ke, .slice ol x.pk.pl.length kl] 43))
      have HRP : Hid (RPt w w [.int .i64 x.id, .int .i64 x.layer, .bool x.key, .bool x.pk.mr, .int .u8 x.pk.ty, .int .u16 x.pk.sq, .int .u32 x.pk.st, .int .u32 x.pk.sc, .slice os x.pk.ss.length ks, .bool x.pk.has, .int .u16 x.pk.pr, .slice oe x.pk.ex.length ke, .slice ol x.pk.pl.length kl] x) := Lib.hid ⟨os, oe, ol, ks, ke, kl, rfl, HPS.out _ (More.refl _), HPO.out, HPM.out⟩
      clear hR hfr hps
      cases b' with
      | true =>
        go_wp2_with (first | (refine lnIf (.load 43 (.tmp 33)) rfl ?_; refine wpList_load_mid rfl 43 (.tmp 33) rfl b (off + j * 16) rfl [.int .i64 d, .int .i64 g, .bool c, .int .i64 x.id, .int .i64 x.layer, .bool x.key, .bool x.pk.mr, .int .u8 x.pk.ty, .int .u16 x.pk.sq, .int .u32 x.pk.st, .int .u32 x.pk.sc, .slice os x.pk.ss.length ks, .bool x.pk.has, .int .u16 x.pk.pr, .slice oe x.pk.ex.length ke, .slice ol x.pk.pl.length kl] _ HRG.out Try.underlying43 rfl (by kernel_rfl) ?_) | (refine lnIf (.store 43 (.tmp 9) (.tmp 34)) rfl ?_; refine ln_store_new rfl 43 (.tmp 9) (.tmp 34) rfl wr _ #[.int .i64 d, .int .i64 g, .bool c, .int .i64 x.id, .int .i64 x.layer, .bool x.key, .bool x.pk.mr, .int .u8 x.pk.ty, .int .u16 x.pk.sq, .int .u32 x.pk.st, .int .u32 x.pk.sc, .slice os x.pk.ss.length ks, .bool x.pk.has, .int .u16 x.pk.pr, .slice oe x.pk.ex.length ke, .slice ol x.pk.pl.length kl] rfl rfl rfl (by kernel_rfl) rfl rfl ?_) | (refine lnIf (.load 43 (.tmp 9)) rfl ?_; refine lnLoad rfl 43 (.tmp 9) rfl wr.heap.size 43 _ _ (blk_new wr (.cells #[.int .i64 d, .int .i64 g, .bool c, .int .i64 x.id, .int .i64 x.layer, .bool x.key, .bool x.pk.mr, .int .u8 x.pk.ty, .int .u16 x.pk.sq, .int .u32 x.pk.st, .int .u32 x.pk.sc, .slice os x.pk.ss.length ks, .bool x.pk.has, .int .u16 x.pk.pr, .slice oe x.pk.ex.length ke, .slice ol x.pk.pl.length kl] 43)) rfl Try.underlying43 rfl (by kernel_rfl) ?_) | (go_at_call 19; ((with_reducible refine (HDO.out).mono ?_); rintro e w4 ⟨rfl, h4, t4⟩; rw [HR.out] at h4; rw [HR.out]; have H4 := Lib.hid h4; have X4 := Lib.hid (t4.blk (by simp) HBX.out); have P4 := Lib.hid (HPX.out.stay t4); have B4 := Lib.hid (t4.blk (List.mem_cons_of_mem _ HBF.out) HBC.out); have hlw4 : wr.heap.size < w4.heap.size := Nat.lt_of_lt_of_le (by simp) t4.1; clear h4 t4)) | (refine lnIf (.load 41 (.tmp 41)) rfl ?_; refine wpList_load_mid rfl 41 (.tmp 41) rfl wr.heap.size 3 rfl [.int .i64 x.id, .int .i64 x.layer, .bool x.key, .bool x.pk.mr, .int .u8 x.pk.ty, .int .u16 x.pk.sq, .int .u32 x.pk.st, .int .u32 x.pk.sc, .slice os x.pk.ss.length ks, .bool x.pk.has, .int .u16 x.pk.pr, .slice oe x.pk.ex.length ke, .slice ol x.pk.pl.length kl] _ (ln_cells3 X4.out) Try.underlying41 rfl (by kernel_rfl) ?_) | (at_builtin; (refine wpList_append_row _ rfl (.tmp 40) (.tmp 43) 58 rfl w.heap.size 41 i0 (.agg #[.int .i64 0, .int .i64 0, .bool false, .bool false, .int .u8 0, .int .u16 0, .int .u32 0, .int .u32 0, .slice none 0 0, .bool false, .int .u16 0, .slice none 0 0, .slice none 0 0]) 13 120 Try.underlying58 hi hz0 hz1 hz2 rfl (by decide) _ P rfl (P4.out.row.on (More.alloc w4 (.cells #[.int .i64 x.id, .int .i64 x.layer, .bool x.key, .bool x.pk.mr, .int .u8 x.pk.ty, .int .u16 x.pk.sq, .int .u32 x.pk.st, .int .u32 x.pk.sc, .slice os x.pk.ss.length ks, .bool x.pk.has, .int .u16 x.pk.pr, .slice oe x.pk.ex.length ke, .slice ol x.pk.pl.length kl] 41))) w4.heap.size [.int .i64 x.id, .int .i64 x.layer, .bool x.key, .bool x.pk.mr, .int .u8 x.pk.ty, .int .u16 x.pk.sq, .int .u32 x.pk.st, .int .u32 x.pk.sc, .slice os x.pk.ss.length ks, .bool x.pk.has, .int .u16 x.pk.pr, .slice oe x.pk.ex.length ke, .slice ol x.pk.pl.length kl] x rfl rfl (ln_new_cells rfl) (by simp [Value.oneCell']) (HRP.out.off) (fun b h => h.elim) (by decide) (by omega) (H4.out.more.al _).size ?_; intro v8 w8 ho8 hg8 hb8; have R8 := Lib.hid ho8; have L8 := Lib.hid ((H4.out.on (More.alloc w4 (.cells #[.int .i64 x.id, .int .i64 x.layer, .bool x.key, .bool x.pk.mr, .int .u8 x.pk.ty, .int .u16 x.pk.sq, .int .u32 x.pk.st, .int .u32 x.pk.sc, .slice os x.pk.ss.length ks, .bool x.pk.has, .int .u16 x.pk.pr, .slice oe x.pk.ex.length ke, .slice ol x.pk.pl.length kl] 41))).grown P4.out.own hg8 hb8 (fun b hb => ho8.lt hb)); have B8 := Lib.hid ((Away.of_grown hg8).blk (blk_alloc B4.out (.cells #[.int .i64 x.id, .int .i64 x.layer, .bool x.key, .bool x.pk.mr, .int .u8 x.pk.ty, .int .u16 x.pk.sq, .int .u32 x.pk.st, .int .u32 x.pk.sc, .slice os x.pk.ss.length ks, .bool x.pk.has, .int .u16 x.pk.pr, .slice oe x.pk.ex.length ke, .slice ol x.pk.pl.length kl] 41)) HNE.out); have N8 : Hid (v8.ownBlock ≠ some w.heap.size) := Lib.hid (by rcases hb8 with e | e; rw [e]; exact HNE.out; rw [e]; intro e2; injection e2 with e2; have := H4.out.more.size; simp at e2; omega); obtain ⟨o8, n8, c8, rfl, hn8, hn9⟩ := ho8.shape; clear ho8 hg8 hb8 hn8 hn9)))
        go_roundw
        case rel =>
          obtain ⟨F', l8, hF', hsub⟩ := L8.out
          have hps3 : WInv src s' (P ++ [x]) := HPS2.out
          exact ⟨j + 1, s', P ++ [x], F', by omega, by go_num, by simp; omega, HFR.out, hps3, l8, ⟨R8.out, hF'⟩, hsub _ (List.mem_cons_of_mem _ HBF.out), B8.out, N8.out⟩
        case measure => simp [intOf]; omega
      | false =>
        go_wp2_with (first | (refine lnIf (.load 43 (.tmp 33)) rfl ?_; refine wpList_load_mid rfl 43 (.tmp 33) rfl b (off + j * 16) rfl [.int .i64 d, .int .i64 g, .bool c, .int .i64 x.id, .int .i64 x.layer, .bool x.key, .bool x.pk.mr, .int .u8 x.pk.ty, .int .u16 x.pk.sq, .int .u32 x.pk.st, .int .u32 x.pk.sc, .slice os x.pk.ss.length ks, .bool x.pk.has, .int .u16 x.pk.pr, .slice oe x.pk.ex.length ke, .slice ol x.pk.pl.length kl] _ HRG.out Try.underlying43 rfl (by kernel_rfl) ?_) | (refine lnIf (.store 43 (.tmp 9) (.tmp 34)) rfl ?_; refine ln_store_new rfl 43 (.tmp 9) (.tmp 34) rfl wr _ #[.int .i64 d, .int .i64 g, .bool c, .int .i64 x.id, .int .i64 x.layer, .bool x.key, .bool x.pk.mr, .int .u8 x.pk.ty, .int .u16 x.pk.sq, .int .u32 x.pk.st, .int .u32 x.pk.sc, .slice os x.pk.ss.length ks, .bool x.pk.has, .int .u16 x.pk.pr, .slice oe x.pk.ex.length ke, .slice ol x.pk.pl.length kl] rfl rfl rfl (by kernel_rfl) rfl rfl ?_) | (refine lnIf (.load 43 (.tmp 9)) rfl ?_; refine lnLoad rfl 43 (.tmp 9) rfl wr.heap.size 43 _ _ (blk_new wr (.cells #[.int .i64 d, .int .i64 g, .bool c, .int .i64 x.id, .int .i64 x.layer, .bool x.key, .bool x.pk.mr, .int .u8 x.pk.ty, .int .u16 x.pk.sq, .int .u32 x.pk.st, .int .u32 x.pk.sc, .slice os x.pk.ss.length ks, .bool x.pk.has, .int .u16 x.pk.pr, .slice oe x.pk.ex.length ke, .slice ol x.pk.pl.length kl] 43)) rfl Try.underlying43 rfl (by kernel_rfl) ?_) | (go_at_call 19; ((with_reducible refine (HDO.out).mono ?_); rintro e w4 ⟨rfl, h4, t4⟩; rw [HR.out] at h4; rw [HR.out]; have H4 := Lib.hid h4; have X4 := Lib.hid (t4.blk (by simp) HBX.out); have P4 := Lib.hid (HPX.out.stay t4); have B4 := Lib.hid (t4.blk (List.mem_cons_of_mem _ HBF.out) HBC.out); have hlw4 : wr.heap.size < w4.heap.size := Nat.lt_of_lt_of_le (by simp) t4.1; clear h4 t4)))
        go_roundw
        case rel => exact ⟨j + 1, s', P, _, by omega, by go_num, by omega, HFR.out, HPS2.out, H4.out, P4.out, List.mem_cons_of_mem _ HBF.out, B4.out, HNE.out⟩
        case measure => simp [intOf]; omega
    · obtain rfl : j = l.length := by omega
      have hnl : ¬ (l.length : Int) < (l.length : Int) := by omega
      go_wp2_with (go_at_call 23; ((with_reducible refine (written_h HH.out (by have := HW.out; omega)).mono ?_); rintro e w5 ⟨⟨v5, rfl, r5⟩, h5, t5, m5⟩; have R5 := Lib.hid r5; obtain ⟨ow, cw, rfl, hlw63, how⟩ := lnOuts (SlP.to_ro (r5.sl (by decide))); have HOW := Lib.hid how; have P5 := Lib.hid (HP.out.stay t5); have B5 := Lib.hid (t5.blk HBF.out HBC0.out); have M5 := Lib.hid (h5.more); clear r5 h5 t5 m5 how))
      obtain ⟨W5, hW5⟩ : ∃ W5, W5 = w5 := ⟨_, rfl⟩
      rw [← hW5] at R5 HOW P5 B5 M5
      rw [← hW5]
      clear hW5 HH HP HBF HBC0 HNE
      go_loopw [10, 51] (fun la ix wr => ∃ (j : Nat) (last : Int), j ≤ s.W.length ∧ ix = .int .i64 j ∧ la = .int .i64 last ∧ (∀ i, j ≤ i → i < s.W.length → last < (s.W.getD i out0).1) ∧ More W5 wr) (fun _ ix _ => s.W.length - (intOf ix).toNat)
      case atStart => exact ⟨0, -1, by omega, rfl, rfl, fun i _ hi => (by
        have hm : s.W.getD i out0 ∈ s.W := by rw [List.getD_eq_getElem?_getD, List.getElem?_eq_getElem hi]; exact List.getElem_mem hi
        obtain ⟨i', _, e, _⟩ := HI.out.outs _ (List.mem_append_left _ hm)
        omega), More.refl _⟩
      case round =>
        obtain ⟨j, last, hj, rfl, rfl, hlast, hmr⟩ := hrel
        have HMR := Lib.hid hmr
        have HLAST := Lib.hid hlast
        clear hmr hlast
        by_cases hlt : j < s.W.length
        · have hm : s.W.getD j out0 ∈ s.W := by rw [List.getD_eq_getElem?_getD, List.getElem?_eq_getElem hlt]; exact List.getElem_mem hlt
          obtain ⟨i, hi, eo1, q, st2, hq, hst2, eo2, hr⟩ := HI.out.outs _ (List.mem_append_left _ hm)
          have hll := HLAST.out j (Nat.le_refl _) hlt
          obtain ⟨g, cap5, po, po2, po3, pk, pk2, pk3, hge, hg, hrg, hps5, hok5, hsm5⟩ := P5.out.get i hi
          obtain rfl : ov = some ⟨g, 0, none⟩ := by injection hge
          obtain ⟨b5, off5, ob, cb, rfl, hb5, c0, c1, hs5⟩ := HOW.out j hlt
          rw [eo1] at c0 hll
          have hnext : ∀ i', j + 1 ≤ i' → i' < s.W.length → (i : Int) < (s.W.getD i' out0).1 := fun i' h1 h2 => by
            have ha := (List.pairwise_append.1 ((List.pairwise_append.1 ((List.pairwise_append.1 HI.out.asc).1)).1)).1
            have := List.pairwise_iff_getElem.1 ha j i' (by simpa using hlt) (by simpa using h2) (by omega)
            simp only [List.getElem_map] at this
            rw [List.getD_eq_getElem?_getD, List.getElem?_eq_getElem h2]
            rw [List.getD_eq_getElem?_getD, List.getElem?_eq_getElem hlt] at eo1
            simp only [Option.getD_some] at eo1 ⊢
            omega
          have HNEXT := Lib.hid hnext
          clear hnext hge hm
          generalize s.W.getD j out0 = o at *
          obtain ⟨o1, o2⟩ := o
          generalize P.getD i it0 = yy at *
          obtain ⟨yid, ly, ky, mr, ty, sq0, st0, sc0, ss, has, pr, ex, pl⟩ := yy
          simp only at c0 c1 hs5 eo1 eo2 hr hps5 hok5 hrg hll
          have hk2 : PkOK ⟨mr, ty, q, st2, src, ss, has, pr, ex, pl⟩ := ⟨hok5.ty, hq, hst2, HSRC.out, hok5.ss, hok5.pr, hok5.ex, hok5.pl⟩
          have hr2 : rightH ⟨mr, ty, q, st2, src, ss, has, pr, ex, pl⟩ = true := hr
          have hlen : ((pkB ⟨mr, ty, q, st2, src, ss, has, pr, ex, pl⟩).length : Int) ≤ 200 := by rw [pkB_len]; exact ((rightH_iff _).1 hr2).2.2.2.2
          have hrd : readH o2 = (⟨mr, ty, q, st2, src, ss, has, pr, ex, pl⟩, 0) := by
            rw [eo2]
            exact read_pre hr2 hk2 pl (by have := hlen; unfold pkB at this; rw [List.length_append] at this; dsimp only at this; omega)
          have hl2 : ¬ (200 : Int) < (o2.length : Int) := by rw [eo2]; omega
          have hby : Byt o2 := by rw [eo2]; exact ln_pkB hk2
          have HRD := Lib.hid (fun (w6 : World) (m6 : More wr w6) => by
            have := ReadH_short _ o2 w6 (hs5.keep (HMR.out.trans m6)) hby hl2
            rw [hrd] at this
            exact this)
          have HPS5 := Lib.hid hps5
          have HRG := Lib.hid hrg
          have d0 : wr.cell? ⟨b5, off5 + j * 2, none⟩ = some (.int .i64 i) := by rw [HMR.out.cells _ _ hb5]; exact c0
          have d1 : wr.cell? ⟨b5, off5 + j * 2 + 1, none⟩ = some (.slice ob o2.length cb) := by rw [HMR.out.cells _ _ hb5]; exact c1
          have hbw : b5 < wr.heap.size := Nat.lt_of_lt_of_le hb5 HMR.out.size
          have hgw : g < wr.heap.size := Nat.lt_of_lt_of_le hg HMR.out.size
          have hjl : (j : Int) < (s.W.length : Int) := by omega
          have hii : (i : Int) < (P.length : Int) := by omega
          have hip : decide (P.length ≤ i) = false := decide_eq_false (by omega)
          have hill : decide ((i : Int) ≤ last) = false := decide_eq_false (by omega)
          have hnll : ¬ (i : Int) ≤ last := by omega
          clear c0 c1 hs5 eo1 eo2 hr hps5 hok5 hsm5 hrg hr2 hlen hrd hl2 hby hk2
          go_wp2_with (first | (go_at_call 24; ((with_reducible refine (HRD.out _ (More.alloc wr (.cells #[.int .i64 i, .slice ob o2.length cb] 78))).mono ?_); rintro e w6 ⟨vs6, ve6, vp6, rfl, s6, m6⟩; have S6 := Lib.hid s6; have M6 : Hid (More wr w6) := Lib.hid ((More.alloc _ _).trans m6); have e0 : w6.cell? ⟨wr.heap.size, 0, none⟩ = some (.int .i64 i) := blk_cell (blk_more m6 (blk_new wr (.cells #[.int .i64 i, .slice ob o2.length cb] 78))) 0 rfl; have hx6 : wr.heap.size < w6.heap.size := Nat.lt_of_lt_of_le (by simp) m6.size; have hg6 : g < w6.heap.size := (by omega); have q2 : w6.cell? ⟨w.heap.size, 2, none⟩ = some (.int .u32 src) := blk_cell (blk_more M6.out (blk_more HMR.out B5.out)) 2 rfl; have hb06 : w.heap.size < w6.heap.size := blk_lt (blk_more M6.out (blk_more HMR.out B5.out)); have RG6 : Hid (w6.rangeAt g (i * 13 + 3) [.bool mr, .int .u8 ty, .int .u16 sq0, .int .u32 st0, .int .u32 sc0, .slice po ss.length pk, .bool has, .int .u16 pr, .slice po2 ex.length pk2, .slice po3 pl.length pk3]) := Lib.hid (fun k u hu => (by have := RangeAt.laterM HRG.out (HMR.out.trans M6.out) hg (k + 3) u (by exact hu); rw [show i * 13 + 3 + k = i * 13 + (k + 3) by omega]; exact this)); obtain ⟨⟨ao, ak, rfl, _⟩, ⟨ao2, ak2, rfl, _⟩, ⟨ao3, ak3, rfl, _⟩⟩ := id s6; clear s6 m6)) | (refine lnIf (.store 39 (.tmp 13) (.tmp 72)) rfl ?_; refine ln_store_new rfl 39 (.tmp 13) (.tmp 72) rfl w6 _ #[.bool mr, .int .u8 ty, .int .u16 q, .int .u32 st2, .int .u32 src, .slice ao ss.length ak, .bool has, .int .u16 pr, .slice ao2 ex.length ak2, .slice ao3 pl.length ak3] rfl (by simp [go_sem]) rfl (by kernel_rfl) rfl rfl ?_) | (refine lnIf (.load 39 (.tmp 78)) rfl ?_; (refine wpList_load_mid rfl 39 (.tmp 78) rfl g (i * 13 + 3) rfl [.bool mr, .int .u8 ty, .int .u16 sq0, .int .u32 st0, .int .u32 sc0, .slice po ss.length pk, .bool has, .int .u16 pr, .slice po2 ex.length pk2, .slice po3 pl.length pk3] _ (RangeAt.laterM RG6.out (More.alloc w6 (.cells #[.bool mr, .int .u8 ty, .int .u16 q, .int .u32 st2, .int .u32 src, .slice ao ss.length ak, .bool has, .int .u16 pr, .slice ao2 ex.length ak2, .slice ao3 pl.length ak3] 39)) hg6) Try.underlying39 rfl (by kernel_rfl) ?_)) | (refine lnIf (.store 39 (.tmp 15) (.tmp 79)) rfl ?_; refine ln_store_new rfl 39 (.tmp 15) (.tmp 79) rfl (w6.alloc (.cells #[.bool mr, .int .u8 ty, .int .u16 q, .int .u32 st2, .int .u32 src, .slice ao ss.length ak, .bool has, .int .u16 pr, .slice ao2 ex.length ak2, .slice ao3 pl.length ak3] 39)) _ #[.bool mr, .int .u8 ty, .int .u16 sq0, .int .u32 st0, .int .u32 sc0, .slice po ss.length pk, .bool has, .int .u16 pr, .slice po2 ex.length pk2, .slice po3 pl.length pk3] rfl (by simp [go_sem]) rfl (by kernel_rfl) rfl rfl ?_))
          obtain ⟨W7, hW7⟩ : ∃ W7, (w6.alloc (.cells #[.bool mr, .int .u8 ty, .int .u16 q, .int .u32 st2, .int .u32 src, .slice ao ss.length ak, .bool has, .int .u16 pr, .slice ao2 ex.length ak2, .slice ao3 pl.length ak3] 39)).alloc (.cells #[.bool mr, .int .u8 ty, .int .u16 sq0, .int .u32 st0, .int .u32 sc0, .slice po ss.length pk, .bool has, .int .u16 pr, .slice po2 ex.length pk2, .slice po3 pl.length pk3] 39) = W7 := ⟨_, rfl⟩
          have A7 : Hid (W7.heap[w6.heap.size]? = some (.cells #[.bool mr, .int .u8 ty, .int .u16 q, .int .u32 st2, .int .u32 src, .slice ao ss.length ak, .bool has, .int .u16 pr, .slice ao2 ex.length ak2, .slice ao3 pl.length ak3] 39 (0, 0))) := Lib.hid (by rw [← hW7]; exact blk_alloc (blk_new w6 _) _)
          have Q7 : Hid (W7.heap[w6.heap.size + 1]? = some (.cells #[.bool mr, .int .u8 ty, .int .u16 sq0, .int .u32 st0, .int .u32 sc0, .slice po ss.length pk, .bool has, .int .u16 pr, .slice po2 ex.length pk2, .slice po3 pl.length pk3] 39 (0, 0))) := Lib.hid (by rw [← hW7]; exact blk_new2 (by simp))
          have M7 : Hid (More w6 W7) := Lib.hid (by rw [← hW7]; exact (More.alloc _ _).al _)
          rw [hW7]
          clear hW7 e0 q2 d0 d1
          have nA : ¬ w6.heap.size = w6.heap.size + 1 := by omega
          have l4 : ∀ x : LaterS (fun b => b = w6.heap.size + 1) W7, x.w'.cell? ⟨w6.heap.size, 4, none⟩ = some (.int .u32 src) := fun x => blk_cell (x.h.blk A7.out nA) 4 rfl
          have l2 : ∀ x : LaterS (fun b => b = w6.heap.size + 1) W7, x.w'.cell? ⟨w6.heap.size, 2, none⟩ = some (.int .u16 q) := fun x => blk_cell (x.h.blk A7.out nA) 2 rfl
          have l3 : ∀ x : LaterS (fun b => b = w6.heap.size + 1) W7, x.w'.cell? ⟨w6.heap.size, 3, none⟩ = some (.int .u32 st2) := fun x => blk_cell (x.h.blk A7.out nA) 3 rfl
          have p4 : W7.cell? ⟨w6.heap.size + 1, 4, none⟩ = some (.int .u32 sc0) := blk_cell Q7.out 4 rfl
          have p2 : W7.cell? ⟨w6.heap.size + 1, 2, none⟩ = some (.int .u16 sq0) := blk_cell Q7.out 2 rfl
          have p3 : W7.cell? ⟨w6.heap.size + 1, 3, none⟩ = some (.int .u32 st0) := blk_cell Q7.out 3 rfl
          have z4 : W7.frozen? ⟨w6.heap.size + 1, 4, none⟩ = false := blk_free Q7.out 4
          have z2 : W7.frozen? ⟨w6.heap.size + 1, 2, none⟩ = false := blk_free Q7.out 2
          have z3 : W7.frozen? ⟨w6.heap.size + 1, 3, none⟩ = false := blk_free Q7.out 3
          refine wp_region_numS (fun b => b = w6.heap.size + 1) W7 17 [(0, false), (1, false), (2, false), (3, false), (4, false), (5, false), (6, false), (7, false), (8, false), (9, false), (10, false), (11, true), (12, false), (13, false), (14, true), (15, true), (16, false), (17, true)] (by kernel_rfl) (by kernel_rfl) ?_
          iterate 11 (refine num_quiet rfl rfl (laterS_mk (by repeat (first | exact Away.refl _ _ | assumption | refine Away.drewN ?_ _ | refine Away.set ?_ (by first | rfl | exact Or.inl rfl | exact Or.inr rfl) _))) ?_; intro K hK; go_big_quiet_op; go_big_quiet_on)
          (refine num_next rfl rfl ?_; intro K hK; unfold loud; go_simp)
          have a4 : Hid (Away (fun b => b = w6.heap.size + 1) W7 ((W7.drewN 1).setCell ⟨w6.heap.size + 1, 4, none⟩ (.int .u32 src))) := Lib.hid (((Away.refl (fun b => b = w6.heap.size + 1) W7).drewN 1).set (p := ⟨w6.heap.size + 1, 4, none⟩) rfl _)
          refine ⟨laterS_mk a4.out, hK _ _ ?_⟩
          clear hK K
          iterate 2 (refine num_quiet rfl rfl (laterS_mk a4.out) ?_; intro K hK; go_big_quiet_op; go_big_quiet_on)
          (refine num_next rfl rfl ?_; intro K hK; unfold loud; go_simp)
          have a2 : Hid (Away (fun b => b = w6.heap.size + 1) W7 (((W7.drewN 1).setCell ⟨w6.heap.size + 1, 4, none⟩ (.int .u32 src)).setCell ⟨w6.heap.size + 1, 2, none⟩ (.int .u16 q))) := Lib.hid (a4.out.set (p := ⟨w6.heap.size + 1, 2, none⟩) rfl _)
          refine ⟨laterS_mk a2.out, hK _ _ ?_⟩
          clear hK K
          (refine num_next rfl rfl ?_; intro K hK; unfold loud; go_simp)
          refine ⟨laterS_mk a2.out, hK _ _ ?_⟩
          clear hK K
          iterate 1 (refine num_quiet rfl rfl (laterS_mk a2.out) ?_; intro K hK; go_big_quiet_op; go_big_quiet_on)
          (refine num_end rfl rfl (by decide) ?_; intro K hK; unfold loud; go_simp)
          refine hK _ _ ?_
          clear hK K l4 l2 l3 p4 p2 p3 z4 z2 z3
          refine num_nil ?_
          obtain ⟨W9, hW9⟩ : ∃ W9, (((W7.drewN 1).setCell ⟨w6.heap.size + 1, 4, none⟩ (.int .u32 src)).setCell ⟨w6.heap.size + 1, 2, none⟩ (.int .u16 q)).setCell ⟨w6.heap.size + 1, 3, none⟩ (.int .u32 st2) = W9 := ⟨_, rfl⟩
          have a9 : Hid (Away (fun b => b = w6.heap.size + 1) W7 W9) := Lib.hid (by rw [← hW9]; exact a2.out.set (p := ⟨w6.heap.size + 1, 3, none⟩) rfl _)
          have Q9 : Hid (W9.heap[w6.heap.size + 1]? = some (.cells #[.bool mr, .int .u8 ty, .int .u16 q, .int .u32 st2, .int .u32 src, .slice po ss.length pk, .bool has, .int .u16 pr, .slice po2 ex.length pk2, .slice po3 pl.length pk3] 39 (0, 0))) := Lib.hid (by rw [← hW9]; exact blk_eq (blk_set (blk_set (blk_set (blk_drewN Q7.out 1) 4 _) 2 _) 3 _) rfl)
          rw [hW9]
          clear hW9 a4 a2
          have A9 := Lib.hid (a9.out.blk A7.out nA)
          have M9 : Hid (More w6 W9) := Lib.hid (a9.out.to_more M7.out (fun b hb => by rw [hb]; omega))
          have PA : Hid (∀ w', More W9 w' → PkS w' (.slice ao ss.length ak) (.slice ao2 ex.length ak2) (.slice ao3 pl.length ak3) ⟨mr, ty, q, st2, src, ss, has, pr, ex, pl⟩) := Lib.hid fun w' m => S6.out.keep (M9.out.trans m)
          have MW9 : Hid (More w W9) := Lib.hid (M5.out.trans (HMR.out.trans (M6.out.trans M9.out)))
          have PB : Hid (∀ w', More W9 w' → PkS w' (.slice po ss.length pk) (.slice po2 ex.length pk2) (.slice po3 pl.length pk3) ⟨mr, ty, q, st2, src, ss, has, pr, ex, pl⟩) := Lib.hid fun w' m => ⟨HPS5.out.s.keep (MW9.out.trans m), HPS5.out.e.keep (MW9.out.trans m), HPS5.out.l.keep (MW9.out.trans m)⟩
          go_wp2_with fail
          have LA : ∀ x : Later W9, x.w'.rangeAt w6.heap.size 0 [.bool mr, .int .u8 ty, .int .u16 q, .int .u32 st2, .int .u32 src, .slice ao ss.length ak, .bool has, .int .u16 pr, .slice ao2 ex.length ak2, .slice ao3 pl.length ak3] := fun x => lnRange (blk_more x.h A9.out)
          have LB : ∀ x : Later W9, x.w'.rangeAt (w6.heap.size + 1) 0 [.bool mr, .int .u8 ty, .int .u16 q, .int .u32 st2, .int .u32 src, .slice po ss.length pk, .bool has, .int .u16 pr, .slice po2 ex.length pk2, .slice po3 pl.length pk3] := fun x => lnRange (blk_more x.h Q9.out)
          refine wp_region_num W9 10 [(0, false), (1, false), (2, false), (3, false), (5, false), (4, true), (6, true), (7, true), (8, false), (9, false)] (by kernel_rfl) (by kernel_rfl) ?_
          iterate 3 (refine num_quiet rfl rfl (later_mk (by repeat (first | exact More.refl _ | assumption | refine More.dr ?_ _ | refine More.al ?_ _ | refine More.st ?_ (by simp) _))) ?_; intro K hK; go_big_quiet_op; go_big_quiet_on)
          refine num_load_mid rfl rfl (later_mk (by repeat (first | exact More.refl _ | assumption | refine More.dr ?_ _ | refine More.al ?_ _ | refine More.st ?_ (by simp) _))) 39 (.tmp 13) rfl w6.heap.size 0 rfl [.bool mr, .int .u8 ty, .int .u16 q, .int .u32 st2, .int .u32 src, .slice ao ss.length ak, .bool has, .int .u16 pr, .slice ao2 ex.length ak2, .slice ao3 pl.length ak3] _ (fun w' hx => by obtain ⟨x, rfl⟩ := hx; exact LA x) Try.underlying39 rfl (by kernel_rfl) ?_
          intro K hK
          go_simp
          refine hK _ ?_
          clear hK K
          refine num_load_mid rfl rfl (later_mk (by repeat (first | exact More.refl _ | assumption | refine More.dr ?_ _ | refine More.al ?_ _ | refine More.st ?_ (by simp) _))) 39 (.tmp 15) rfl (w6.heap.size + 1) 0 rfl [.bool mr, .int .u8 ty, .int .u16 q, .int .u32 st2, .int .u32 src, .slice po ss.length pk, .bool has, .int .u16 pr, .slice po2 ex.length pk2, .slice po3 pl.length pk3] _ (fun w' hx => by obtain ⟨x, rfl⟩ := hx; exact LB x) Try.underlying39 rfl (by kernel_rfl) ?_
          intro K hK
          go_simp
          refine hK _ ?_
          clear hK K LA LB
          (refine num_next rfl rfl ?_; intro K hK; unfold loud; go_simp)
          (with_reducible refine (packet20 ⟨mr, ty, q, st2, src, ss, has, pr, ex, pl⟩ _ _ _ _ (PA.out _ (More.drewN _ 1))).mono ?_)
          rintro e w10 ⟨rfl, m10⟩
          have M10 : Hid (More W9 w10) := Lib.hid ((More.drewN _ 1).trans m10)
          clear m10
          refine ⟨_, rfl, later_mk M10.out, hK _ _ ?_⟩
          clear hK K
          (refine num_next rfl rfl ?_; intro K hK; unfold loud; go_simp)
          (with_reducible refine (packet20 ⟨mr, ty, q, st2, src, ss, has, pr, ex, pl⟩ _ _ _ _ (PB.out _ M10.out)).mono ?_)
          rintro e w11 ⟨rfl, m11⟩
          have M11 : Hid (More W9 w11) := Lib.hid (M10.out.trans m11)
          clear m11
          refine ⟨_, rfl, later_mk M11.out, hK _ _ ?_⟩
          clear hK K
          (refine num_next rfl rfl ?_; intro K hK; unfold loud; go_simp)
          (with_reducible refine (Same04_eq ⟨mr, ty, q, st2, src, ss, has, pr, ex, pl⟩ _ _ _ _ _ _ _ (PA.out _ M11.out) (PB.out _ M11.out)).mono ?_)
          rintro e w12 ⟨rfl, m12⟩
          have M12 : Hid (More W9 w12) := Lib.hid (M11.out.trans m12)
          clear m12
          refine ⟨_, rfl, later_mk M12.out, hK _ _ ?_⟩
          clear hK K
          iterate 2 (refine num_quiet rfl rfl (later_mk M12.out) ?_; intro K hK; go_big_quiet_op; go_big_quiet_on)
          refine num_nil ?_
          go_wp2
          go_roundw
          case rel => exact ⟨j + 1, (i : Int), by omega, by go_num, rfl, HNEXT.out, HMR.out.trans (M6.out.trans (M9.out.trans M12.out))⟩
          case measure => simp [intOf]; omega
        · obtain rfl : j = s.W.length := by omega
          have hnl2 : ¬ (s.W.length : Int) < (s.W.length : Int) := by omega
          go_wp2
          go_ret
          exact ⟨rfl, M5.out.trans HMR.out⟩
/-- The law. -/
theorem LaneWrites_law (cs : Array Value) (c : CfS) (v : Value) (l : List ActS) (w : World) (hc : RCfg w cs.toList c) (sl : SlP 16 RAct w v l) :
    Calls Try.prog 6 #[.agg cs, v] w fun e w' => e = .returned (.bool true) ∧ More w w' := by
  obtain ⟨hcs, h1, h2, h3⟩ := hc
  obtain ⟨m, mo, src, sq, st⟩ := c
  obtain rfl : cs = #[.int .i64 m, .int .i64 mo, .int .u32 src, .int .u16 sq, .int .u32 st] := by
    cases cs
    simpa using hcs
  cases hB : cfgB m mo with
  | false =>
    obtain ⟨oa, cap, rfl, _⟩ := acts sl
    exact LaneWrites_bad m mo src sq st oa l.length cap w hB
  | true =>
    have hB := of_decide_eq_true hB
    obtain ⟨n, rfl⟩ : ∃ n : Nat, m = n := ⟨m.toNat, by omega⟩
    cases hl : lrgA l with
    | true => exact LaneWrites_large n mo src sq st _ l w (by omega) (by omega) (by omega) (by omega) h2 h1 sl hl
    | false => exact LaneWrites_main n mo src sq st _ l w (by omega) (by omega) (by omega) (by omega) h2 h1 sl hl
end Go.Proofs.Ytdgmmffedhikcaa
