/- Package jitter: the least thing comes out. -/
import Derived.Test.YtlnikmcimmnbmaaJitG
namespace Go.Proofs.Ytlnikmcimmnbmaa
set_option linter.unusedSimpArgs false
set_option linter.unusedVariables false
open Go.RowKit Go.Lib
set_option maxRecDepth 100000

/-- The buffer behind its least thing. -/
def winJ (b : Jb) (n : Int) : Int × Int := if b.begun then mark b.hi b.bits n else (n, 1)
def leastJ (b : Jb) : Jb := match b.holds with
  | [] => b
  | h :: T => { b with holds := T, begun := true, hi := (winJ b h.1).1, bits := (winJ b h.1).2 }
theorem num60_mid {n : Int} (h : Num60 n) : Mid n := by obtain ⟨h0, h1⟩ := h; unfold Mid; omega
/-- A buffer, and what its calls leave alone. -/
structure BStep (w w' : World) (R : Nat) (v v' : Value) (b' : Jb) : Prop where
  buf : BufAt w' R v' b'
  away : Away (fun k => k = R ∨ v.ownBlock = some k) w w'
  own : v'.ownBlock = v.ownBlock ∨ ∃ g, v'.ownBlock = some g ∧ w.heap.size ≤ g
theorem HRow.away {w w' : World} {base : Nat} {v : Value} {L : List Hd} {S : Nat → Prop} (h : HRow w base v L) (a : Away S w w') (hs : ∀ k, v.ownBlock = some k → ¬ S k) : HRow w' base v L := by
  obtain ⟨h1, h2⟩ := h
  refine ⟨h1, ?_⟩
  rcases h2 with h | ⟨g, cap, cur, e1, hb, hg, rest⟩
  · exact Or.inl h
  · exact Or.inr ⟨g, cap, cur, e1, hb, a.blk hg (hs g (by rw [e1]; rfl)), rest⟩
theorem Away.old {w a b : World} {S S' : Nat → Prop} (m : More w a) (h : Away S a b) (hs : ∀ k, S k → S' k ∨ w.heap.size ≤ k) : Away S' w b :=
  ⟨h.os.trans m.os, h.tape.trans m.tape, h.output.trans m.output, Nat.le_trans m.size h.size, fun k hk hn => by
    rw [h.block k (Nat.lt_of_lt_of_le hk m.size) (fun x => (hs k x).elim hn (fun y => by omega))]
    exact m.block k hk⟩
theorem HRow.own_ge {w : World} {base : Nat} {v : Value} {L : List Hd} (h : HRow w base v L) {k : Nat} (hk : v.ownBlock = some k) : base ≤ k ∧ k < w.heap.size := by
  rcases h.2 with ⟨rfl, _⟩ | ⟨g, cap, cur, rfl, hb, hg, _⟩
  · cases hk
  · obtain rfl : g = k := by injection hk
    exact ⟨hb, lt_of_block hg⟩
theorem st3_away (w : World) (B : Nat) (v0 v1 v2 : Value) : Away (fun k => k = B) w (((w.setCell ⟨B, 0, none⟩ v0).setCell ⟨B, 1, none⟩ v1).setCell ⟨B, 2, none⟩ v2) :=
  (((Away.refl (fun k => k = B) w).set (p := ⟨B, 0, none⟩) rfl v0).set (p := ⟨B, 1, none⟩) rfl v1).set (p := ⟨B, 2, none⟩) rfl v2
theorem least_end {w w5 : World} {R B0 g nn cap cap3 : Nat} {oa : Option Addr} {b : Jb} {T : List Hd} {h0 h1 h2 hi' bi' : Int} {X : Value} (hb : b.holds = (h0, h1, h2) :: T) (hw : winJ b h0 = (hi', bi'))
    (B5 : w5.heap[R]? = some (.cells ((bufCells b X).setIfInBounds 2 (.slice oa nn cap3)) 191 (0, 0))) (D5 : w5.heap[B0]? = some (.cells #[.int .i64 0, .int .i64 0, .int .i64 0] 193 (0, 0)))
    (R5 : HRow w5 (R + 1) (.slice oa nn cap3) T) (O3 : (Value.slice oa nn cap3).ownBlock = some g) (A5 : Away (fun k => k = R ∨ k = g) w w5) (hB0 : w.heap.size ≤ B0) (hR : R < w.heap.size) (hgR : g ≠ R) (hgl : g < w.heap.size)
    {WF : World} (e : ((((((w5.setCell ⟨R, 4, none⟩ (.int .i64 hi')).setCell ⟨R, 5, none⟩ (.int .u64 bi')).setCell ⟨R, 3, none⟩ (.bool true)).setCell ⟨B0, 0, none⟩ (.int .i64 h0)).setCell ⟨B0, 1, none⟩ (.int .i64 h1)).setCell ⟨B0, 2, none⟩ (.int .i64 h2)) = WF) :
    WF.cell? ⟨B0, 0, none⟩ = some (.int .i64 h0) ∧ WF.cell? ⟨B0, 1, none⟩ = some (.int .i64 h1) ∧ WF.cell? ⟨B0, 2, none⟩ = some (.int .i64 h2) ∧ BStep w WF R (.slice (some ⟨g, 0, none⟩) (nn + 1) cap) (.slice oa nn cap3) (leastJ b) := by
  obtain ⟨w6, h6⟩ : ∃ w6, ((w5.setCell ⟨R, 4, none⟩ (.int .i64 hi')).setCell ⟨R, 5, none⟩ (.int .u64 bi')).setCell ⟨R, 3, none⟩ (.bool true) = w6 := ⟨_, rfl⟩
  rw [h6] at e
  have b6 := blk_set (blk_set (blk_set B5 4 (.int .i64 hi')) 5 (.int .u64 bi')) 3 (.bool true)
  rw [h6] at b6
  have a6 : Away (fun k => k = R) w5 w6 := by
    rw [← h6]
    exact (((Away.refl (fun k => k = R) w5).set (p := ⟨R, 4, none⟩) rfl _).set (p := ⟨R, 5, none⟩) rfl _).set (p := ⟨R, 3, none⟩) rfl _
  have hRB : R ≠ B0 := by omega
  have d6 := a6.blk D5 (fun x => hRB x.symm)
  have a7 := st3_away w6 B0 (.int .i64 h0) (.int .i64 h1) (.int .i64 h2)
  have d7 := blk_set (blk_set (blk_set d6 0 (.int .i64 h0)) 1 (.int .i64 h1)) 2 (.int .i64 h2)
  rw [e] at a7 d7
  have b7 := a7.blk b6 hRB
  refine ⟨blk_cell d7 0 rfl, blk_cell d7 1 rfl, blk_cell d7 2 rfl, ⟨blk_eq b7 ?_, ?_⟩, ?_, Or.inl (by rw [O3]; rfl)⟩
  · simp only [leastJ, hb, hw]
    rfl
  · have : HRow WF (R + 1) (.slice oa nn cap3) T := (R5.away a6 (fun k hk x => by rw [O3] at hk; injection hk with hk; omega)).away a7 (fun k hk x => by rw [O3] at hk; injection hk with hk; omega)
    simp only [leastJ, hb]
    exact this
  · have a8 : Away (fun k => k = R ∨ k = g ∨ k = B0) w WF := (A5.mono fun k hk => hk.elim Or.inl (fun x => Or.inr (Or.inl x))).trans ((a6.mono fun k hk => Or.inl hk).trans (a7.mono fun k hk => Or.inr (Or.inr hk)))
    refine Away.old (More.refl w) a8 fun k hk => ?_
    rcases hk with hk | hk | hk
    · exact Or.inl (Or.inl hk)
    · exact Or.inl (Or.inr (by rw [hk]; rfl))
    · exact Or.inr (by omega)
set_option maxHeartbeats 4000000 in
theorem Least_any (b : Jb) (h : Hd) (T : List Hd) (hb : b.holds = h :: T) (ok : JOK b) (R : Nat) (v : Value) (w : World) (H : BufAt w R v b) :
    Calls Try.prog 122 #[.pointer (some ⟨R, 0, none⟩)] w fun e w' => e = .returned (.agg #[.int .i64 h.1, .int .i64 h.2.1, .int .i64 h.2.2]) ∧ ∃ v', BStep w w' R v v' (leastJ b) := by
  obtain ⟨h0, h1, h2⟩ := h
  have hn := (ok.nums (h0, h1, h2) (by rw [hb]; exact List.mem_cons_self)).1
  have hm := num60_mid hn
  have hmh := num60_mid ok.hi
  have hlT : b.holds.length = T.length + 1 := by rw [hb]; rfl
  -- the worlds ahead of Delete
  obtain ⟨W2, hW2⟩ : ∃ W2, W2 = (w.alloc (.cells #[.int .i64 0, .int .i64 0, .int .i64 0] 193)).alloc (.cells #[.int .i64 h0, .int .i64 h1, .int .i64 h2] 193) := ⟨_, rfl⟩
  have m2 : More w W2 := by rw [hW2]; exact (More.alloc w _).al _
  have HRw := H.row
  rw [hb] at HRw
  obtain ⟨g, cap, rfl, hgb, hgl, hgc⟩ := HRw.cell 0 (by simp)
  obtain ⟨g0, g1, g2⟩ := hgc _ (More.alloc w (.cells #[.int .i64 0, .int .i64 0, .int .i64 0] 193))
  rw [Nat.zero_mul] at g0 g1 g2
  have ca := (H.on (More.alloc w (.cells #[.int .i64 0, .int .i64 0, .int .i64 0] 193))).cells ⟨_, More.refl _⟩
  obtain ⟨_, _, ca2, _, _, _⟩ := ca
  have cb := (H.on ((More.alloc w (.cells #[.int .i64 0, .int .i64 0, .int .i64 0] 193)).al (.cells #[.int .i64 h0, .int .i64 h1, .int .i64 h2] 193))).cells ⟨_, More.refl _⟩
  obtain ⟨_, _, cb2, _, _, _⟩ := cb
  have HROW2 := Lib.hid (HRw.more m2)
  have H2 := Lib.hid (H.on m2)
  have n0 : W2.heap[w.heap.size]? = some (.cells #[.int .i64 0, .int .i64 0, .int .i64 0] 193 (0, 0)) := by rw [hW2]; exact blk_alloc (blk_new w _) _
  have n1 : W2.heap[w.heap.size + 1]? = some (.cells #[.int .i64 h0, .int .i64 h1, .int .i64 h2] 193 (0, 0)) := by rw [hW2]; exact blk_new2 (by simp)
  rw [List.length_cons] at ca2 cb2 HROW2 H2 ⊢
  have hgR : g ≠ R := by omega
  have hRlt := lt_of_block H.blk
  have M2 := Lib.hid m2
  have N0 := Lib.hid n0
  have N1 := Lib.hid n1
  obtain ⟨nn, hnn⟩ : ∃ nn, T.length = nn := ⟨_, rfl⟩
  rw [hnn] at ca2 cb2 HROW2 H2 ⊢
  have HD : Hid (∀ w', w' = W2 → Calls Try.prog 150 #[.slice (some ⟨g, 0, none⟩) (nn + 1) cap, .int .i64 0, .int .i64 1] w' fun e w3 => ∃ oa cap3, e = .returned (.slice oa nn cap3) ∧ HRow w3 (R + 1) (.slice oa nn cap3) T ∧
      w3.heap[R]? = some (.cells (bufCells b (.slice (some ⟨g, 0, none⟩) (nn + 1) cap)) 191 (0, 0)) ∧ w3.heap[w.heap.size]? = some (.cells #[.int .i64 0, .int .i64 0, .int .i64 0] 193 (0, 0)) ∧ w3.heap[w.heap.size + 1]? = some (.cells #[.int .i64 h0, .int .i64 h1, .int .i64 h2] 193 (0, 0)) ∧
      Away (fun k => k = g) w w3 ∧ (Value.slice oa nn cap3).ownBlock = some g) := Lib.hid fun w' e => by
    subst e
    refine (Delete_first (h0, h1, h2) T _ (R + 1) _ HROW2.out).mono ?_
    rintro e w3 ⟨v3, rfl, r3, a3, o3⟩
    obtain ⟨oa, cap3, rfl, _⟩ := r3.shape
    rw [hnn] at r3 o3 ⊢
    have key : ∀ k, (Value.slice (some ⟨g, 0, none⟩) (nn + 1) cap).ownBlock = some k → k = g := fun k hk => by injection hk with hk; exact hk.symm
    have hbb : w'.heap[R]? = some (.cells (bufCells b (.slice (some ⟨g, 0, none⟩) (nn + 1) cap)) 191 (0, 0)) := H2.out.blk
    exact ⟨oa, cap3, rfl, r3, a3.blk hbb (fun x => hgR (key _ x).symm), a3.blk N0.out (fun x => by have := key _ x; omega), a3.blk N1.out (fun x => by have := key _ x; omega), Away.old M2.out a3 (fun k hk => Or.inl (key _ hk)), o3⟩
  have HW2 := Lib.hid hW2
  have HB := Lib.hid hb
  clear hgc HROW2 m2 n0 n1 hb hlT HRw hnn
  cases hbg : b.begun with
  | false =>
    have HBG := Lib.hid hbg
    clear hbg
    go_enter Try.func122, Try.ntmps122
    go_wp2_with (first | (go_at_call 150; ((with_reducible refine (HD.out _ HW2.out.symm).mono ?_); rintro e w3 ⟨oa, cap3, rfl, r3, b3, d0, d1, a3, o3⟩; have B3 := Lib.hid b3; have D0 := Lib.hid d0; have D1 := Lib.hid d1; have R3 := Lib.hid r3; have A3 := Lib.hid a3; have O3 := Lib.hid o3; unfold bufCells at b3; rw [HBG.out] at b3; have x2 := blk_cell b3 2 rfl; have z2 := blk_free b3 2; have x3 := blk_cell b3 3 rfl; have z3 := blk_free b3 3; have y0 := blk_cell d1 0 rfl; clear b3 d0 d1 a3 o3 r3)) | (go_at_call 151; ((with_reducible refine (First_any h0 _).mono ?_); rintro e w5 ⟨rfl, m5⟩; have b5 := blk_more m5 (blk_set B3.out 2 (.slice oa nn cap3)); have d5 := blk_more m5 (blk_other D0.out ⟨R, 2, none⟩ (.slice oa nn cap3) (by simp; omega)); have d6 := blk_more m5 (blk_other D1.out ⟨R, 2, none⟩ (.slice oa nn cap3) (by simp; omega)); have B5 := Lib.hid b5; have D5 := Lib.hid d5; have D6 := Lib.hid d6; have M5 := Lib.hid m5; unfold bufCells at b5; rw [HBG.out] at b5; have q3 := blk_cell b5 3 rfl; have q4 := blk_cell b5 4 rfl; have q5 := blk_cell b5 5 rfl; have k3 := blk_free b5 3; have k4 := blk_free b5 4; have k5 := blk_free b5 5; have p0 := blk_cell d5 0 rfl; have p1 := blk_cell d5 1 rfl; have p2 := blk_cell d5 2 rfl; have f0 := blk_free d5 0; have f1 := blk_free d5 1; have f2 := blk_free d5 2; have t0 := blk_cell d6 0 rfl; have t1 := blk_cell d6 1 rfl; have t2 := blk_cell d6 2 rfl; clear b5 d5 d6 m5 x2 z2 x3 z3 y0)))
    have hR5 : HRow w5 (R + 1) (.slice oa nn cap3) T := (R3.out.away ((Away.refl (fun k => k = R) w3).set (p := ⟨R, 2, none⟩) rfl (.slice oa nn cap3)) (fun k hk x => by rw [O3.out] at hk; injection hk with hk; omega)).more M5.out
    have hA5 : Away (fun k => k = R ∨ k = g) w w5 := ((A3.out.mono fun k hk => Or.inr hk).trans ((Away.refl (fun k => k = R ∨ k = g) w3).set (p := ⟨R, 2, none⟩) (Or.inl rfl) (.slice oa nn cap3))).more M5.out
    obtain ⟨WF, hWF⟩ : ∃ WF, ((((((w5.setCell ⟨R, 4, none⟩ (.int .i64 h0)).setCell ⟨R, 5, none⟩ (.int .u64 1)).setCell ⟨R, 3, none⟩ (.bool true)).setCell ⟨w.heap.size, 0, none⟩ (.int .i64 h0)).setCell ⟨w.heap.size, 1, none⟩ (.int .i64 h1)).setCell ⟨w.heap.size, 2, none⟩ (.int .i64 h2)) = WF := ⟨_, rfl⟩
    obtain ⟨r0, r1, r2, st⟩ := least_end (cap := cap) HB.out (show winJ b h0 = (h0, 1) by unfold winJ; rw [HBG.out]; rfl) B5.out D5.out hR5 O3.out hA5 (Nat.le_refl _) hRlt hgR hgl hWF
    rw [hWF]
    clear hWF hR5 hA5
    (refine bodyPost_ret (v := .agg #[.int .i64 h0, .int .i64 h1, .int .i64 h2]) ?rr1 rfl ?_; (case rr1 => (simp [results, Try.results122, go_sem, r0, r1, r2])))
    exact ⟨rfl, _, st⟩
  | true =>
    have HBG := Lib.hid hbg
    clear hbg
    go_enter Try.func122, Try.ntmps122
    go_wp2_with (go_at_call 150; ((with_reducible refine (HD.out _ HW2.out.symm).mono ?_); rintro e w3 ⟨oa, cap3, rfl, r3, b3, d0, d1, a3, o3⟩; have B3 := Lib.hid b3; have D0 := Lib.hid d0; have D1 := Lib.hid d1; have R3 := Lib.hid r3; have A3 := Lib.hid a3; have O3 := Lib.hid o3; unfold bufCells at b3; rw [HBG.out] at b3; have x2 := blk_cell b3 2 rfl; have z2 := blk_free b3 2; have x3 := blk_cell b3 3 rfl; have z3 := blk_free b3 3; have y0 := blk_cell d1 0 rfl; clear b3 d0 d1 a3 o3 r3))
    generalize hw4 : w3.setCell ⟨R, 2, none⟩ (.slice oa nn cap3) = w4 at *
    have b4 : w4.heap[R]? = some (.cells ((bufCells b (.slice (some ⟨g, 0, none⟩) (nn + 1) cap)).setIfInBounds 2 (.slice oa nn cap3)) 191 (0, 0)) := by rw [← hw4]; exact blk_set B3.out 2 _
    have d4 : w4.heap[w.heap.size]? = some (.cells #[.int .i64 0, .int .i64 0, .int .i64 0] 193 (0, 0)) := by rw [← hw4]; exact blk_other D0.out ⟨R, 2, none⟩ (.slice oa nn cap3) (by simp; omega)
    have e4 : w4.heap[w.heap.size + 1]? = some (.cells #[.int .i64 h0, .int .i64 h1, .int .i64 h2] 193 (0, 0)) := by rw [← hw4]; exact blk_other D1.out ⟨R, 2, none⟩ (.slice oa nn cap3) (by simp; omega)
    have r4 : HRow w4 (R + 1) (.slice oa nn cap3) T := by
      rw [← hw4]
      exact R3.out.away ((Away.refl (fun k => k = R) w3).set (p := ⟨R, 2, none⟩) rfl (.slice oa nn cap3)) (fun k hk x => by rw [O3.out] at hk; injection hk with hk; omega)
    have a4 : Away (fun k => k = R ∨ k = g) w w4 := by
      rw [← hw4]
      exact (A3.out.mono fun k hk => Or.inr hk).trans ((Away.refl (fun k => k = R ∨ k = g) w3).set (p := ⟨R, 2, none⟩) (Or.inl rfl) (.slice oa nn cap3))
    have B4 := Lib.hid b4
    have D4 := Lib.hid d4
    have E4 := Lib.hid e4
    have R4 := Lib.hid r4
    have A4 := Lib.hid a4
    have c4 : ∀ x : Later w4, x.w'.cell? ⟨R, 4, none⟩ = some (.int .i64 b.hi) := fun x => blk_cell (blk_more x.h b4) 4 rfl
    have c5 : ∀ x : Later w4, x.w'.cell? ⟨R, 5, none⟩ = some (.int .u64 b.bits) := fun x => blk_cell (blk_more x.h b4) 5 rfl
    have c1 : ∀ x : Later w4, x.w'.cell? ⟨w.heap.size + 1, 0, none⟩ = some (.int .i64 h0) := fun x => blk_cell (blk_more x.h e4) 0 rfl
    clear b4 d4 e4 r4 a4 hw4 x2 z2 x3 z3 y0
    refine wp_region_num w4 10 [(0, false), (1, false), (2, false), (3, false), (4, false), (5, false), (6, false), (7, true), (8, true), (9, false), (10, true)] (by kernel_rfl) (by kernel_rfl) ?_
    iterate 7 (refine num_quiet rfl rfl (later_mk (by repeat (first | exact More.refl _ | assumption | refine More.dr ?_ _ | refine More.al ?_ _ | refine More.st ?_ (by simp) _))) ?_; intro K hK; go_big_quiet_op; go_big_quiet_on)
    (refine num_next rfl rfl ?_; intro K hK; unfold loud; go_simp)
    refine (Mark_any b.hi b.bits h0 hmh hm ok.bits _).mono ?_
    rintro e w5 ⟨rfl, m5⟩
    have M5 : More w4 w5 := (More.drewN w4 1).trans m5
    refine ⟨_, rfl, later_mk M5, hK _ _ ?_⟩
    clear hK K m5
    (refine num_next rfl rfl ?_; intro K hK; unfold loud; go_simp)
    refine ⟨later_mk M5, hK _ _ ?_⟩
    clear hK K
    iterate 1 (refine num_quiet rfl rfl (later_mk (by repeat (first | exact More.refl _ | assumption | refine More.dr ?_ _ | refine More.al ?_ _ | refine More.st ?_ (by simp) _))) ?_; intro K hK; go_big_quiet_op; go_big_quiet_on)
    have b5 := blk_more M5 B4.out
    have d5 := blk_more M5 D4.out
    have d6 := blk_more M5 E4.out
    have B5 := Lib.hid b5
    have D5 := Lib.hid d5
    have HM5 := Lib.hid M5
    unfold bufCells at b5
    rw [HBG.out] at b5
    have q3 := blk_cell b5 3 rfl
    have q4 := blk_cell b5 4 rfl
    have q5 := blk_cell b5 5 rfl
    have k3 := blk_free b5 3
    have k4 := blk_free b5 4
    have k5 := blk_free b5 5
    have p0 := blk_cell d5 0 rfl
    have p1 := blk_cell d5 1 rfl
    have p2 := blk_cell d5 2 rfl
    have f0 := blk_free d5 0
    have f1 := blk_free d5 1
    have f2 := blk_free d5 2
    have t0 := blk_cell d6 0 rfl
    have t1 := blk_cell d6 1 rfl
    have t2 := blk_cell d6 2 rfl
    clear b5 d5 d6 M5 c4 c5 c1
    (refine num_end rfl rfl (by decide) ?_; intro K hK; unfold loud; go_simp)
    refine hK _ _ ?_
    clear hK K
    refine num_nil ?_
    go_wp2
    have hR5 : HRow w5 (R + 1) (.slice oa nn cap3) T := R4.out.more HM5.out
    have hA5 : Away (fun k => k = R ∨ k = g) w w5 := A4.out.more HM5.out
    obtain ⟨WF, hWF⟩ : ∃ WF, ((((((w5.setCell ⟨R, 4, none⟩ (.int .i64 (mark b.hi b.bits h0).1)).setCell ⟨R, 5, none⟩ (.int .u64 (mark b.hi b.bits h0).2)).setCell ⟨R, 3, none⟩ (.bool true)).setCell ⟨w.heap.size, 0, none⟩ (.int .i64 h0)).setCell ⟨w.heap.size, 1, none⟩ (.int .i64 h1)).setCell ⟨w.heap.size, 2, none⟩ (.int .i64 h2)) = WF := ⟨_, rfl⟩
    obtain ⟨r0, r1, r2, st⟩ := least_end (cap := cap) HB.out (show winJ b h0 = ((mark b.hi b.bits h0).1, (mark b.hi b.bits h0).2) by unfold winJ; rw [HBG.out]; rfl) B5.out D5.out hR5 O3.out hA5 (Nat.le_refl _) hRlt hgR hgl hWF
    rw [hWF]
    clear hWF hR5 hA5
    (refine bodyPost_ret (v := .agg #[.int .i64 h0, .int .i64 h1, .int .i64 h2]) ?rr2 rfl ?_; (case rr2 => (simp [results, Try.results122, go_sem, r0, r1, r2])))
    exact ⟨rfl, _, st⟩
end Go.Proofs.Ytlnikmcimmnbmaa
