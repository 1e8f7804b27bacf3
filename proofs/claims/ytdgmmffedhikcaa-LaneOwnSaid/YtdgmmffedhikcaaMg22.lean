/- Merged from my texts LaneW. -/
import Derived.Test.YtdgmmffedhikcaaMg21
/- A lane's Rewrite. (printed by gen_laneW.py) -/
namespace Go.Proofs.Ytdgmmffedhikcaa
set_option linter.unusedSimpArgs false
set_option linter.unusedVariables false
open Go.RowKit
set_option maxRecDepth 100000

section
variable {N : Nat → Prop} {w w' : World} {k : LnB} {vo : Value} {s s' : LnS}
theorem ln_cells7 {t : TypeId} (h : w.heap[k.L]? = some (.cells (lnCells k vo s) t (0, 0))) : w.rangeAt k.L 7 [.int .u32 s.rw.src, .int .u16 s.rw.sq, .int .u32 s.rw.st, .bool s.rw.any, .int .u32 s.rw.last, .int .u32 s.rw.shift] := fun j v hv => by
  match j, hv with
  | 0, hv => exact blk_cell h 7 hv
  | 1, hv => exact blk_cell h 8 hv
  | 2, hv => exact blk_cell h 9 hv
  | 3, hv => exact blk_cell h 10 hv
  | 4, hv => exact blk_cell h 11 hv
  | 5, hv => exact blk_cell h 12 hv
theorem loud_load_mid {P : Program} {C : World → Prop} {o : Oper} {a : Act} {w : World} {K : Act → World → Prop} (ty : TypeId) (x : Operand) (hop : o.op = .load ty x) (b off : Nat) (hx : a.eval x = .pointer (some ⟨b, off, none⟩)) (cs : List Value) (d : TypeDesc) (hc : w.rangeAt b off cs)
    (hu : P.underlying ty = some d) (hd : d.isRow = true) (hi : (P.info? ty).map (·.size) = some cs.length) (h : C w ∧ K (a.put o.dst (.agg cs.toArray)) w) : loud P C o a w K := by
  unfold loud execOp
  simp only [hop, hx, Instr.loadAt, Instr.sureAddr, Sem.run_bind, Sem.run_pure, Result.andThen_ok, run_loadVar_mid w b off ty cs d hc hu hd hi]
  exact h
theorem rewrite_ln_no (h : LnX N w k vo s) (hm : mayP s 2 = false) : Calls Try.prog 15 #[.pointer (some ⟨k.L, 0, none⟩)] w fun e w' => e = .returned (.tuple #[.int .i64 0, .bool false, .bool false]) ∧ More w w' := by
  have H1 := may2_ln h
  rw [hm] at H1
  have H1 := Lib.hid H1
  clear hm h
  go_enter Try.func15, Try.ntmps15
  go_wp2_with (go_at_call 20; ((with_reducible refine (H1.out).mono ?_); rintro e w1 ⟨rfl, m1⟩; have M1 := Lib.hid m1; clear m1))
  refine bodyPost_ret (v := .tuple #[.int .i64 0, .bool false, .bool false]) (by simp [results, Try.results15, go_sem]) rfl ?_
  exact ⟨rfl, M1.out⟩
set_option maxHeartbeats 8000000 in
theorem rewrite_ln_yes (h : LnX N w k vo s) (x : ItS) (fi : Bool) (T : List (ItS × Bool)) (hB : s.B = (x, fi) :: T) (X Z Q : Int) (hX : shL s.rw x.pk.st fi = X) (hZ : (x.pk.st + X) % 4294967296 = Z) (hQ : (s.rw.sq + 1) % 65536 = Q) :
    Calls Try.prog 15 #[.pointer (some ⟨k.L, 0, none⟩)] w fun e w' => e = .returned (.tuple #[.int .i64 (if s.C.length < s.room then 0 else (s.C.head?.map (·.1)).getD 0), .bool (decide (¬ s.C.length < s.room)), .bool true]) ∧
      LnX (Grew N w w') w' k vo { s with B := T, rw := ⟨s.rw.src, Q, s.rw.st, true, Z, X⟩, C := if s.C.length < s.room then s.C ++ [(x.id, pkB { x.pk with sq := s.rw.sq, st := Z, sc := s.rw.src })] else s.C.tail ++ [(x.id, pkB { x.pk with sq := s.rw.sq, st := Z, sc := s.rw.src })] } ∧ Away N w w' := by
  have H := Lib.hid h
  have hL : k.L < w.heap.size := blk_lt h.blk
  have H1 := may2_ln h
  have hm : mayP s 2 = true := by
    show decide (0 < s.B.length) = true
    rw [hB]; simp
  rw [hm] at H1
  have H1 := Lib.hid H1
  have HST := Lib.hid (fun (mr : Bool) (ty q so : Int) (w : World) => step_any s.rw.src s.rw.sq s.rw.st s.rw.last s.rw.shift s.rw.any fi mr ty q x.pk.st so w X hX Z hZ Q hQ)
  have hUZ : U32 Z := by rw [← hZ]; exact ⟨by omega, by omega⟩
  have hUQ : U16 Q := by rw [← hQ]; exact ⟨by omega, by omega⟩
  obtain ⟨f1, q1, ci1, co1, cd1, cg1, css1, g1, a1⟩ := h.r2
  rw [hB] at a1
  obtain ⟨c, q, rfl, ac, aq⟩ := a1.uncons
  have AQ := Lib.hid aq
  obtain ⟨vs, ve, vp, rfl, ⟨⟨os, ks, rfl, _⟩, ⟨oe, ke, rfl, _⟩, ⟨ol, kl, rfl, _⟩⟩, hok, hri⟩ := ac.read
  have hPR : ∀ w', Away (lnE N k vo) w w' → PkS w' (.slice os x.pk.ss.length ks) (.slice oe x.pk.ex.length ke) (.slice ol x.pk.pl.length kl) x.pk := fun w' a => by
    obtain ⟨vs', ve', vp', e, hp, _⟩ := ac w' a
    simp [itC] at e
    obtain ⟨e1, e2, e3⟩ := e
    rw [← e1, ← e2, ← e3] at hp
    exact hp
  have HPR := Lib.hid hPR
  have hok2 : PkOK { x.pk with sq := s.rw.sq, st := Z, sc := s.rw.src } := ⟨hok.ty, h.ok.sq, hUZ, h.ok.src, hok.ss, hok.pr, hok.ex, hok.pl⟩
  have hri2 : rightH { x.pk with sq := s.rw.sq, st := Z, sc := s.rw.src } = true := hri
  have HBY : Hid (∀ w', Away (lnE N k vo) w w' → Calls Try.prog 48 #[.agg #[.bool x.pk.mr, .int .u8 x.pk.ty, .int .u16 s.rw.sq, .int .u32 Z, .int .u32 s.rw.src, .slice os x.pk.ss.length ks, .bool x.pk.has, .int .u16 x.pk.pr, .slice oe x.pk.ex.length ke, .slice ol x.pk.pl.length kl]] w' fun e w'' => (∃ v, e = .returned (.tuple #[v, .int .i64 0]) ∧ w''.ownsRow w'.heap.size 5 1 v (pkB { x.pk with sq := s.rw.sq, st := Z, sc := s.rw.src }).length ((pkB { x.pk with sq := s.rw.sq, st := Z, sc := s.rw.src }).map (Value.int .u8))) ∧ More w' w'') :=
    Lib.hid fun w' a => BytesH_yes { x.pk with sq := s.rw.sq, st := Z, sc := s.rw.src } _ _ _ w' ⟨(hPR w' a).s, (hPR w' a).e, (hPR w' a).l⟩ hok2 hri2
  have HBL : Hid ((pkB { x.pk with sq := s.rw.sq, st := Z, sc := s.rw.src }).length ≤ 200 ∧ Byt (pkB { x.pk with sq := s.rw.sq, st := Z, sc := s.rw.src })) := Lib.hid ⟨by
    have h1 := pkB_len { x.pk with sq := s.rw.sq, st := Z, sc := s.rw.src }
    have h2 := ((rightH_iff _).1 hri2).2.2.2.2
    omega, ln_pkB hok2⟩
  clear hPR hok hok2 hri hri2 hX hZ hQ
  generalize pkB { x.pk with sq := s.rw.sq, st := Z, sc := s.rw.src } = body at *
  obtain ⟨ro, hro⟩ : ∃ ro, (if s.C.length < s.room then 0 else (s.C.head?.map (·.1)).getD 0) = ro := ⟨_, rfl⟩
  obtain ⟨rd, hrd⟩ : ∃ rd, decide (¬ s.C.length < s.room) = rd := ⟨_, rfl⟩
  obtain ⟨rc, hrc⟩ : ∃ rc, (if s.C.length < s.room then s.C ++ [(x.id, body)] else s.C.tail ++ [(x.id, body)]) = rc := ⟨_, rfl⟩
  rw [hro, hrd, hrc]
  have HRO := Lib.hid hro
  have HRD := Lib.hid hrd
  have HRC := Lib.hid hrc
  clear hro hrd hrc
  simp only [itC, List.cons_append, List.nil_append] at ac g1
  have G1 := Lib.hid g1
  have hR1 : k.R2 < w.heap.size := blk_lt g1.ring
  have hA1 : k.A2 < w.heap.size := blk_lt g1.row
  have D1 := Lib.hid h.dist
  clear h hm g1 ac aq a1
  go_enter Try.func15, Try.ntmps15
  go_wp2_with (first | (go_at_call 20; ((with_reducible refine (H1.out).mono ?_); rintro e w1 ⟨rfl, m1⟩; have M1 := Lib.hid m1; have B1 := Lib.hid (blk_more m1 H.out.blk); have z1 : Hid (w.heap.size ≤ w1.heap.size) := Lib.hid m1.size; have E1 := Lib.hid (G1.out.more m1); clear m1; have c2 : w1.cell? ⟨k.L, 2, none⟩ = some (.pointer (some ⟨k.R2, 0, none⟩)) := blk_cell B1.out 2 rfl)) | (go_at_call 46; ((with_reducible refine (popC w1 k.R2 k.A2 s.room f1 _ q ci1 co1 cd1 cg1 css1 E1.out).mono ?_); rintro e w2 ⟨rfl, ⟨co2, g2⟩, a2⟩; have G2 := Lib.hid g2; have A2 : Hid (Away (RgB k.R2 k.A2) w w2) := Lib.hid ((Away.of_more M1.out).trans a2); have B2 : Hid (w2.heap[k.L]? = some (.cells (lnCells k vo s) 76 (0, 0))) := Lib.hid (a2.blk B1.out (by obtain ⟨⟨d1, d2, d3, d4, _⟩, _⟩ := D1.out; rintro (e | e) <;> omega)); clear g2 a2)))
  obtain ⟨W4, hW4⟩ : ∃ W4, (w2.alloc (.cells #[.int .i64 x.id, .int .i64 x.layer, .bool x.key, .bool x.pk.mr, .int .u8 x.pk.ty, .int .u16 x.pk.sq, .int .u32 x.pk.st, .int .u32 x.pk.sc, .slice os x.pk.ss.length ks, .bool x.pk.has, .int .u16 x.pk.pr, .slice oe x.pk.ex.length ke, .slice ol x.pk.pl.length kl, .bool fi] 99)).alloc (.cells #[.bool x.pk.mr, .int .u8 x.pk.ty, .int .u16 x.pk.sq, .int .u32 x.pk.st, .int .u32 x.pk.sc, .slice os x.pk.ss.length ks, .bool x.pk.has, .int .u16 x.pk.pr, .slice oe x.pk.ex.length ke, .slice ol x.pk.pl.length kl] 39) = W4 := ⟨_, rfl⟩
  have M4 : Hid (More w2 W4) := Lib.hid (by rw [← hW4]; exact (More.alloc _ _).al _)
  have X4 : Hid (W4.heap[w2.heap.size]? = some (.cells #[.int .i64 x.id, .int .i64 x.layer, .bool x.key, .bool x.pk.mr, .int .u8 x.pk.ty, .int .u16 x.pk.sq, .int .u32 x.pk.st, .int .u32 x.pk.sc, .slice os x.pk.ss.length ks, .bool x.pk.has, .int .u16 x.pk.pr, .slice oe x.pk.ex.length ke, .slice ol x.pk.pl.length kl, .bool fi] 99 (0, 0))) := Lib.hid (by rw [← hW4]; exact blk_alloc (blk_new w2 _) _)
  have P4 : Hid (W4.heap[w2.heap.size + 1]? = some (.cells #[.bool x.pk.mr, .int .u8 x.pk.ty, .int .u16 x.pk.sq, .int .u32 x.pk.st, .int .u32 x.pk.sc, .slice os x.pk.ss.length ks, .bool x.pk.has, .int .u16 x.pk.pr, .slice oe x.pk.ex.length ke, .slice ol x.pk.pl.length kl] 39 (0, 0))) := Lib.hid (by rw [← hW4]; exact blk_new2 (by simp))
  have B4 := Lib.hid (blk_more M4.out B2.out)
  rw [hW4]
  clear hW4
  have nX : ¬ w2.heap.size = k.L := by have := blk_lt B2.out; omega
  have nP : ¬ w2.heap.size + 1 = k.L := by have := blk_lt B2.out; omega
  have HP : ∀ y : LaterS (fun b => b = k.L) W4, y.w'.rangeAt (w2.heap.size + 1) 0 [.bool x.pk.mr, .int .u8 x.pk.ty, .int .u16 x.pk.sq, .int .u32 x.pk.st, .int .u32 x.pk.sc] := fun y => by
    have := lnRange (cs := [.bool x.pk.mr, .int .u8 x.pk.ty, .int .u16 x.pk.sq, .int .u32 x.pk.st, .int .u32 x.pk.sc, .slice os x.pk.ss.length ks, .bool x.pk.has, .int .u16 x.pk.pr, .slice oe x.pk.ex.length ke, .slice ol x.pk.pl.length kl]) (y.h.blk P4.out nP)
    intro j v hv
    refine this j v ?_
    have hj := (List.getElem?_eq_some_iff.1 hv).1
    rw [← hv]
    exact List.getElem?_append_left (l₁ := [.bool x.pk.mr, .int .u8 x.pk.ty, .int .u16 x.pk.sq, .int .u32 x.pk.st, .int .u32 x.pk.sc]) (l₂ := [.slice os x.pk.ss.length ks, .bool x.pk.has, .int .u16 x.pk.pr, .slice oe x.pk.ex.length ke, .slice ol x.pk.pl.length kl]) hj
  have c13 : ∀ y : LaterS (fun b => b = k.L) W4, y.w'.cell? ⟨w2.heap.size, 13, none⟩ = some (.bool fi) := fun y => blk_cell (y.h.blk X4.out nX) 13 rfl
  refine wp_region_numS (fun b => b = k.L) W4 17 [(0, false), (1, false), (2, false), (3, false), (5, false), (6, false), (7, false), (8, false), (4, true), (9, true), (10, false), (11, false), (12, false), (13, false), (14, false), (15, true), (16, false), (17, true)] (by kernel_rfl) (by kernel_rfl) ?_
  iterate 5 (refine num_quiet rfl rfl (laterS_mk (by repeat (first | exact Away.refl _ _ | assumption | refine Away.drewN ?_ _ | refine Away.set ?_ (by first | rfl | exact Or.inl rfl | exact Or.inr rfl) _))) ?_; intro K hK; go_big_quiet_op; go_big_quiet_on)
  refine num_load_mid rfl rfl (laterS_mk (by repeat (first | exact Away.refl _ _ | assumption | refine Away.drewN ?_ _ | refine Away.set ?_ (by first | rfl | exact Or.inl rfl | exact Or.inr rfl) _))) 35 (.tmp 33) rfl (w2.heap.size + 1) 0 rfl [.bool x.pk.mr, .int .u8 x.pk.ty, .int .u16 x.pk.sq, .int .u32 x.pk.st, .int .u32 x.pk.sc] _ (fun w' hx => by obtain ⟨y, rfl⟩ := hx; exact HP y) Try.underlying35 rfl (by kernel_rfl) ?_
  intro K hK
  go_simp
  refine hK _ ?_
  clear hK K
  iterate 2 (refine num_quiet rfl rfl (laterS_mk (by repeat (first | exact Away.refl _ _ | assumption | refine Away.drewN ?_ _ | refine Away.set ?_ (by first | rfl | exact Or.inl rfl | exact Or.inr rfl) _))) ?_; intro K hK; go_big_quiet_op; go_big_quiet_on)
  refine num_next rfl rfl ?_
  intro K hK
  refine loud_load_mid 72 (.tmp 31) rfl k.L 7 rfl [.int .u32 s.rw.src, .int .u16 s.rw.sq, .int .u32 s.rw.st, .bool s.rw.any, .int .u32 s.rw.last, .int .u32 s.rw.shift] _ (ln_cells7 (blk_drewN B4.out 1)) Try.underlying72 rfl (by kernel_rfl) ?_
  refine ⟨laterS_mk (by repeat (first | exact Away.refl _ _ | assumption | refine Away.drewN ?_ _ | refine Away.set ?_ (by first | rfl | exact Or.inl rfl | exact Or.inr rfl) _)), ?_⟩
  go_simp
  refine hK _ _ ?_
  clear hK K
  (refine num_next rfl rfl ?_; intro K hK; unfold loud; go_simp)
  (with_reducible refine (HST.out _ _ _ _ _).mono ?_)
  rintro e w5 ⟨rfl, m5⟩
  have M5 : Hid (More W4 w5) := Lib.hid ((More.drewN _ 1).trans m5)
  clear m5
  have B5 := Lib.hid (blk_more M5.out B4.out)
  have P5 := Lib.hid (blk_more M5.out P4.out)
  have X5 := Lib.hid (blk_more M5.out X4.out)
  refine ⟨_, rfl, laterS_mk (Away.of_more M5.out), hK _ _ ?_⟩
  clear hK K HP c13
  iterate 5 (refine num_quiet rfl rfl (laterS_mk (Away.of_more M5.out)) ?_; intro K hK; go_big_quiet_op; go_big_quiet_on)
  refine num_next rfl rfl ?_
  intro K hK
  refine loud_store_in 72 (.tmp 41) (.tmp 38) rfl k.L 7 76 _ [.int .u32 s.rw.src, .int .u16 Q, .int .u32 s.rw.st, .bool true, .int .u32 Z, .int .u32 X] rfl rfl B5.out (by show 7 + 6 ≤ 16; decide) (by kernel_rfl) (by simp [Value.oneCell']) ?_
  have A5 : Hid (Away (fun b => b = k.L) W4 (w5.setRow k.L (lnPut (lnCells k vo s).toList 7 [.int .u32 s.rw.src, .int .u16 Q, .int .u32 s.rw.st, .bool true, .int .u32 Z, .int .u32 X]).toArray)) := Lib.hid ((Away.of_more (S := fun b => b = k.L) M5.out).row (g := k.L) rfl _)
  have BB : Hid ((w5.setRow k.L (lnPut (lnCells k vo s).toList 7 [.int .u32 s.rw.src, .int .u16 Q, .int .u32 s.rw.st, .bool true, .int .u32 Z, .int .u32 X]).toArray).heap[k.L]? = some (.cells (lnCells k vo { s with rw := ⟨s.rw.src, Q, s.rw.st, true, Z, X⟩ }) 76 (0, 0))) := Lib.hid (blk_eq (lnBlk B5.out _) rfl)
  have PP : Hid ((w5.setRow k.L (lnPut (lnCells k vo s).toList 7 [.int .u32 s.rw.src, .int .u16 Q, .int .u32 s.rw.st, .bool true, .int .u32 Z, .int .u32 X]).toArray).heap[w2.heap.size + 1]? = some (.cells #[.bool x.pk.mr, .int .u8 x.pk.ty, .int .u16 x.pk.sq, .int .u32 x.pk.st, .int .u32 x.pk.sc, .slice os x.pk.ss.length ks, .bool x.pk.has, .int .u16 x.pk.pr, .slice oe x.pk.ex.length ke, .slice ol x.pk.pl.length kl] 39 (0, 0))) := Lib.hid (lnOther P5.out _ nP)
  have XX : Hid ((w5.setRow k.L (lnPut (lnCells k vo s).toList 7 [.int .u32 s.rw.src, .int .u16 Q, .int .u32 s.rw.st, .bool true, .int .u32 Z, .int .u32 X]).toArray).heap[w2.heap.size]? = some (.cells #[.int .i64 x.id, .int .i64 x.layer, .bool x.key, .bool x.pk.mr, .int .u8 x.pk.ty, .int .u16 x.pk.sq, .int .u32 x.pk.st, .int .u32 x.pk.sc, .slice os x.pk.ss.length ks, .bool x.pk.has, .int .u16 x.pk.pr, .slice oe x.pk.ex.length ke, .slice ol x.pk.pl.length kl, .bool fi] 99 (0, 0))) := Lib.hid (lnOther X5.out _ nX)
  obtain ⟨w6, hw6⟩ : ∃ w6, w5.setRow k.L (lnPut (lnCells k vo s).toList 7 [.int .u32 s.rw.src, .int .u16 Q, .int .u32 s.rw.st, .bool true, .int .u32 Z, .int .u32 X]).toArray = w6 := ⟨_, rfl⟩
  rw [hw6] at A5 BB PP XX ⊢
  clear hw6 B5 P5 X5 M5
  refine ⟨laterS_mk A5.out, ?_⟩
  go_simp
  refine hK _ _ ?_
  clear hK K
  iterate 1 (refine num_quiet rfl rfl (laterS_mk A5.out) ?_; intro K hK; go_big_quiet_op; go_big_quiet_on)
  refine num_end rfl rfl (by decide) ?_
  intro K hK
  refine loud_store_in 35 (.tmp 42) (.tmp 39) rfl (w2.heap.size + 1) 0 39 _ [.bool x.pk.mr, .int .u8 x.pk.ty, .int .u16 s.rw.sq, .int .u32 Z, .int .u32 s.rw.src] rfl rfl PP.out (by show 0 + 5 ≤ 10; decide) (by kernel_rfl) (by simp [Value.oneCell']) ?_
  have A7 : Hid (Away (fun b => b = k.L ∨ RgB k.R2 k.A2 b) w (w6.setRow (w2.heap.size + 1) (lnPut (#[.bool x.pk.mr, .int .u8 x.pk.ty, .int .u16 x.pk.sq, .int .u32 x.pk.st, .int .u32 x.pk.sc, .slice os x.pk.ss.length ks, .bool x.pk.has, .int .u16 x.pk.pr, .slice oe x.pk.ex.length ke, .slice ol x.pk.pl.length kl] : Array Value).toList 0 [.bool x.pk.mr, .int .u8 x.pk.ty, .int .u16 s.rw.sq, .int .u32 Z, .int .u32 s.rw.src]).toArray)) := Lib.hid ((((A2.out.mono fun b hb => Or.inr hb).more M4.out).trans (A5.out.mono fun b hb => Or.inl hb)).rowNew (by have := A2.out.size; omega) _)
  have B7 : Hid ((w6.setRow (w2.heap.size + 1) (lnPut (#[.bool x.pk.mr, .int .u8 x.pk.ty, .int .u16 x.pk.sq, .int .u32 x.pk.st, .int .u32 x.pk.sc, .slice os x.pk.ss.length ks, .bool x.pk.has, .int .u16 x.pk.pr, .slice oe x.pk.ex.length ke, .slice ol x.pk.pl.length kl] : Array Value).toList 0 [.bool x.pk.mr, .int .u8 x.pk.ty, .int .u16 s.rw.sq, .int .u32 Z, .int .u32 s.rw.src]).toArray).heap[k.L]? = some (.cells (lnCells k vo { s with rw := ⟨s.rw.src, Q, s.rw.st, true, Z, X⟩ }) 76 (0, 0))) := Lib.hid (lnOther BB.out _ (fun e => nP e.symm))
  have P7 : Hid ((w6.setRow (w2.heap.size + 1) (lnPut (#[.bool x.pk.mr, .int .u8 x.pk.ty, .int .u16 x.pk.sq, .int .u32 x.pk.st, .int .u32 x.pk.sc, .slice os x.pk.ss.length ks, .bool x.pk.has, .int .u16 x.pk.pr, .slice oe x.pk.ex.length ke, .slice ol x.pk.pl.length kl] : Array Value).toList 0 [.bool x.pk.mr, .int .u8 x.pk.ty, .int .u16 s.rw.sq, .int .u32 Z, .int .u32 s.rw.src]).toArray).heap[w2.heap.size + 1]? = some (.cells #[.bool x.pk.mr, .int .u8 x.pk.ty, .int .u16 s.rw.sq, .int .u32 Z, .int .u32 s.rw.src, .slice os x.pk.ss.length ks, .bool x.pk.has, .int .u16 x.pk.pr, .slice oe x.pk.ex.length ke, .slice ol x.pk.pl.length kl] 39 (0, 0))) := Lib.hid (blk_eq (lnBlk PP.out _) rfl)
  have X7 : Hid ((w6.setRow (w2.heap.size + 1) (lnPut (#[.bool x.pk.mr, .int .u8 x.pk.ty, .int .u16 x.pk.sq, .int .u32 x.pk.st, .int .u32 x.pk.sc, .slice os x.pk.ss.length ks, .bool x.pk.has, .int .u16 x.pk.pr, .slice oe x.pk.ex.length ke, .slice ol x.pk.pl.length kl] : Array Value).toList 0 [.bool x.pk.mr, .int .u8 x.pk.ty, .int .u16 s.rw.sq, .int .u32 Z, .int .u32 s.rw.src]).toArray).heap[w2.heap.size]? = some (.cells #[.int .i64 x.id, .int .i64 x.layer, .bool x.key, .bool x.pk.mr, .int .u8 x.pk.ty, .int .u16 x.pk.sq, .int .u32 x.pk.st, .int .u32 x.pk.sc, .slice os x.pk.ss.length ks, .bool x.pk.has, .int .u16 x.pk.pr, .slice oe x.pk.ex.length ke, .slice ol x.pk.pl.length kl, .bool fi] 99 (0, 0))) := Lib.hid (lnOther XX.out _ (by omega))
  have G7 : Hid (RgAt 14 151 99 (w6.setRow (w2.heap.size + 1) (lnPut (#[.bool x.pk.mr, .int .u8 x.pk.ty, .int .u16 x.pk.sq, .int .u32 x.pk.st, .int .u32 x.pk.sc, .slice os x.pk.ss.length ks, .bool x.pk.has, .int .u16 x.pk.pr, .slice oe x.pk.ex.length ke, .slice ol x.pk.pl.length kl] : Array Value).toList 0 [.bool x.pk.mr, .int .u8 x.pk.ty, .int .u16 s.rw.sq, .int .u32 Z, .int .u32 s.rw.src]).toArray) k.R2 k.A2 s.room ((f1 + 1) % s.room) q ci1 co2 cd1 cg1 _) := Lib.hid (((G2.out.more M4.out).away A5.out (by obtain ⟨⟨d1, d2, d3, d4, _⟩, _⟩ := D1.out; exact Ne.symm d3) (by obtain ⟨⟨d1, d2, d3, d4, _⟩, _⟩ := D1.out; exact Ne.symm d4)).away (lnAway _ _ _) (fun e => by have := A2.out.size; omega) (fun e => by have := A2.out.size; omega))
  obtain ⟨W7, hW7⟩ : ∃ W7, w6.setRow (w2.heap.size + 1) (lnPut (#[.bool x.pk.mr, .int .u8 x.pk.ty, .int .u16 x.pk.sq, .int .u32 x.pk.st, .int .u32 x.pk.sc, .slice os x.pk.ss.length ks, .bool x.pk.has, .int .u16 x.pk.pr, .slice oe x.pk.ex.length ke, .slice ol x.pk.pl.length kl] : Array Value).toList 0 [.bool x.pk.mr, .int .u8 x.pk.ty, .int .u16 s.rw.sq, .int .u32 Z, .int .u32 s.rw.src]).toArray = W7 := ⟨_, rfl⟩
  rw [hW7] at A7 B7 P7 X7 G7 ⊢
  clear hW7 A5 BB PP XX P4 X4 B4
  refine ⟨trivial, ?_⟩
  go_simp
  refine hK _ _ ?_
  clear hK K
  refine num_nil ?_
  have AE7 : Hid (Away (lnE N k vo) w W7) := Lib.hid (A7.out.mono fun b hb => mut_E (by rcases hb with e | e; exact Or.inl e; exact Or.inr (Or.inr (Or.inl e))))
  have hXW : w2.heap.size < W7.heap.size := blk_lt X7.out
  go_wp2_with (first | (refine lnIf (.load 39 (.tmp 7)) rfl ?_; refine lnLoad rfl 39 (.tmp 7) rfl (w2.heap.size + 1) 39 _ _ P7.out rfl Try.underlying39 rfl (by kernel_rfl) ?_) | (go_at_call 48; ((with_reducible refine (HBY.out _ AE7.out).mono ?_); rintro e w8 ⟨⟨v8, rfl, o8⟩, m8⟩; have O8 := Lib.hid o8; have M8 := Lib.hid m8; have S8 := Lib.hid (SlI.of_owns o8 (by have := HBL.out.1; omega)); obtain ⟨bv, cv, rfl⟩ := lnShapeO o8; clear o8 m8)))
  obtain ⟨f3, q3, ci3, co3, cd3, cg3, css3, g3, a3⟩ := H.out.r3
  have A8 : Hid (Away (fun b => b = k.L ∨ RgB k.R2 k.A2 b) w w8) := Lib.hid (A7.out.more M8.out)
  have B8 := Lib.hid (blk_more M8.out B7.out)
  have X8 := Lib.hid (blk_more M8.out X7.out)
  have G8 := Lib.hid (G7.out.more M8.out)
  have AC := Lib.hid a3
  have hq3 : q3.length = s.C.length := a3.len
  have hR3 : k.R3 < w.heap.size := blk_lt g3.ring
  have hA3 : k.A3 < w.heap.size := blk_lt g3.row
  have z2 : w.heap.size ≤ w2.heap.size := A2.out.size
  have E3 : Hid (RgAt 2 153 78 w8 k.R3 k.A3 s.room f3 q3 ci3 co3 cd3 cg3 css3) := Lib.hid (g3.away A8.out (by obtain ⟨⟨d1, d2, d3, d4, d5, d6⟩, ⟨e1, e2, e3, e4, e5⟩, ⟨f1, f2, f3, f4⟩, ⟨j1, j2, j3⟩, ⟨k1, k2⟩, _⟩ := D1.out; rintro (e | e | e) <;> omega) (by obtain ⟨⟨d1, d2, d3, d4, d5, d6⟩, ⟨e1, e2, e3, e4, e5⟩, ⟨f1, f2, f3, f4⟩, ⟨j1, j2, j3⟩, ⟨k1, k2⟩, _⟩ := D1.out; rintro (e | e | e) <;> omega))
  obtain ⟨old, oa, on, op, hold, hpush⟩ := pushO_any w8 k.R3 k.A3 s.room f3 q3 ci3 co3 cd3 cg3 css3 E3.out (outs_shape a3) [.int .i64 x.id, .slice bv body.length cv] ⟨rfl, by simp [Value.oneCell']⟩
  have HPU := Lib.hid hpush
  have HOLD := Lib.hid hold
  clear hpush hold g3 a3
  generalize hdr : decide (¬ q3.length < s.room) = dr at HPU
  have HDR := Lib.hid hdr
  clear hdr
  have nL : ¬ RgB k.R3 k.A3 k.L := by
    obtain ⟨⟨d1, d2, d3, d4, d5, d6⟩, _⟩ := D1.out
    rintro (e | e) <;> omega
  have nX3 : ¬ RgB k.R3 k.A3 w2.heap.size := by rintro (e | e) <;> omega
  go_cut [10, 11, 12] from 48 (fun s10 s11 s12 wx => ∃ C, s10 = .pointer (some ⟨C, 0, none⟩) ∧ s11 = .bool dr ∧ s12 = .int .i64 0 ∧ wx.heap[C]? = some (.cells #[.int .i64 old, .slice oa on op] 78 (0, 0)) ∧ Away (RgB k.R3 k.A3) w8 wx ∧ ∃ f' ci' cd' css', RgAt 2 153 78 wx k.R3 k.A3 s.room f' (pushQ s.room q3 [.int .i64 x.id, .slice bv body.length cv]) ci' co3 cd' cg3 css')
  case first =>
    have L3 : ∀ y : LaterS (RgB k.R3 k.A3) w8, y.w'.cell? ⟨k.L, 3, none⟩ = some (.pointer (some ⟨k.R3, 0, none⟩)) := fun y => blk_cell (y.h.blk B8.out nL) 3 rfl
    have LX : ∀ y : LaterS (RgB k.R3 k.A3) w8, y.w'.cell? ⟨w2.heap.size, 0, none⟩ = some (.int .i64 x.id) := fun y => blk_cell (y.h.blk X8.out nX3) 0 rfl
    refine wp_region_trS (RgB k.R3 k.A3) w8 18 (.op 0 false (.op 1 false (.op 2 false (.op 3 false (.op 4 false (.op 5 false (.op 6 false (.op 7 false (.op 8 false (.br [9, 14] fun k => if k = 9 then .op 10 false (.op 11 false (.op 12 false (.op 13 false (.op 14 true (.op 15 true (.op 16 false (.op 17 false (.done)))))))) else .op 9 true (.op 10 false (.op 11 false (.op 12 false (.op 13 false (.op 15 true (.op 16 false (.op 17 false (.done)))))))))))))))))) (by kernel_rfl) (by kernel_rfl) ?_
    repeat (first | (refine tr_skip rfl rfl (laterS_mk (by repeat (first | exact Away.refl _ _ | assumption | refine Away.drewN ?_ _ | refine Away.set ?_ (by first | rfl | exact Or.inl rfl | exact Or.inr rfl) _))) ?_) | (refine tr_quiet rfl rfl (laterS_mk (by repeat (first | exact Away.refl _ _ | assumption | refine Away.drewN ?_ _ | refine Away.set ?_ (by first | rfl | exact Or.inl rfl | exact Or.inr rfl) _))) ?_; intro K hK; go_big_quiet_op; go_big_quiet_on))
    refine tr_two (by decide) ?_ ?_
    · (refine tr_next rfl rfl ?_; intro K hK; unfold loud; go_simp)
      (with_reducible refine (HPU.out _ (E3.out.more (More.drewN w8 1))).mono ?_)
      rintro e w9 ⟨rfl, g9, a9⟩
      have A9 : Hid (Away (RgB k.R3 k.A3) w8 w9) := Lib.hid (((Away.refl _ _).drewN 1).trans a9)
      have G9 := Lib.hid g9
      clear a9 g9
      refine ⟨_, rfl, laterS_mk A9.out, hK _ _ ?_⟩
      clear hK K
      repeat (first | (refine tr_skip rfl rfl (laterS_mk A9.out) ?_) | (refine tr_quiet rfl rfl (laterS_mk A9.out) ?_; intro K hK; go_big_quiet_op; go_big_quiet_on))
      (refine tr_next rfl rfl ?_; intro K hK; unfold loud; go_simp)
      refine ⟨laterS_mk (A9.out.alc _), hK _ _ ?_⟩
      clear hK K
      (refine tr_next rfl rfl ?_; intro K hK; unfold loud; go_simp)
      refine ⟨laterS_mk (A9.out.alc _), hK _ _ ?_⟩
      clear hK K
      repeat (first | (refine tr_skip rfl rfl (laterS_mk (A9.out.alc _)) ?_) | (refine tr_quiet rfl rfl (laterS_mk (A9.out.alc _)) ?_; intro K hK; go_big_quiet_op; go_big_quiet_on))
      refine tr_done ?_
      go_wp2
      go_meet
      obtain ⟨f', ci', cd', css', g9⟩ := G9.out
      exact ⟨_, rfl, rfl, rfl, blk_new w9 _, A9.out.alc _, f', ci', cd', css', g9.more (More.alloc _ _)⟩
    · (refine tr_next rfl rfl ?_; intro K hK; unfold loud; go_simp)
      refine ⟨laterS_mk (((Away.refl _ w8).drewN 1).alc _), hK _ _ ?_⟩
      clear hK K
      (refine tr_next rfl rfl ?_; intro K hK; unfold loud; go_simp)
      (with_reducible refine (HPU.out _ (E3.out.more ((More.drewN w8 1).al _))).mono ?_)
      rintro e w9 ⟨rfl, g9, a9⟩
      have A9 : Hid (Away (RgB k.R3 k.A3) w8 w9) := Lib.hid ((((Away.refl _ _).drewN 1).alc _).trans a9)
      have G9 := Lib.hid g9
      have hR38 : k.R3 < w8.heap.size := blk_lt E3.out.ring
      have hA38 : k.A3 < w8.heap.size := blk_lt E3.out.row
      have C9 : Hid (w9.heap[w8.heap.size]? = some (.cells #[.int .i64 0, .slice none 0 0] 78 (0, 0))) := Lib.hid (a9.blk (blk_new2 rfl) (by rintro (e | e) <;> omega))
      clear a9 g9
      have d0 : w9.cell? ⟨w8.heap.size, 0, none⟩ = some (.int .i64 0) := blk_cell C9.out 0 rfl
      have d1 : w9.cell? ⟨w8.heap.size, 1, none⟩ = some (.slice none 0 0) := blk_cell C9.out 1 rfl
      have e0 : w9.frozen? ⟨w8.heap.size, 0, none⟩ = false := blk_free C9.out 0
      have e1 : w9.frozen? ⟨w8.heap.size, 1, none⟩ = false := blk_free C9.out 1
      refine ⟨_, rfl, laterS_mk A9.out, hK _ _ ?_⟩
      clear hK K
      repeat (first | (refine tr_skip rfl rfl (laterS_mk A9.out) ?_) | (refine tr_quiet rfl rfl (laterS_mk A9.out) ?_; intro K hK; go_big_quiet_op; go_big_quiet_on))
      (refine tr_next rfl rfl ?_; intro K hK; unfold loud; go_simp)
      have A10 : Away (RgB k.R3 k.A3) w8 ((w9.setCell ⟨w8.heap.size, 0, none⟩ (.int .i64 old)).setCell ⟨w8.heap.size, 1, none⟩ (.slice oa on op)) := (A9.out.setNew (Nat.le_refl _) _).setNew (Nat.le_refl _) _
      have AN : Away (fun b => b = w8.heap.size) w9 ((w9.setCell ⟨w8.heap.size, 0, none⟩ (.int .i64 old)).setCell ⟨w8.heap.size, 1, none⟩ (.slice oa on op)) := ((Away.refl (fun b => b = w8.heap.size) w9).set (p := ⟨w8.heap.size, 0, none⟩) rfl _).set (p := ⟨w8.heap.size, 1, none⟩) rfl _
      refine ⟨laterS_mk A10, hK _ _ ?_⟩
      clear hK K
      repeat (first | (refine tr_skip rfl rfl (laterS_mk A10) ?_) | (refine tr_quiet rfl rfl (laterS_mk A10) ?_; intro K hK; go_big_quiet_op; go_big_quiet_on))
      refine tr_done ?_
      go_wp2
      go_meet
      obtain ⟨f', ci', cd', css', g9⟩ := G9.out
      exact ⟨_, rfl, rfl, rfl, blk_eq (blk_set (blk_set C9.out 0 _) 1 _) rfl, A10, f', ci', cd', css', g9.away AN (by omega) (by omega)⟩
  case rest =>
  obtain ⟨C, rfl, rfl, rfl, cx, ax, f', ci', cd', css', gx⟩ := hcut
  have AX := Lib.hid ax
  have GX := Lib.hid gx
  have BX : Hid (wc.heap[k.L]? = some (.cells (lnCells k vo { s with rw := ⟨s.rw.src, Q, s.rw.st, true, Z, X⟩ }) 76 (0, 0))) := Lib.hid (ax.blk B8.out nL)
  have x0 : wc.cell? ⟨C, 0, none⟩ = some (.int .i64 old) := blk_cell cx 0 rfl
  clear ax gx cx
  go_wp2
  refine bodyPost_ret (v := .tuple #[.int .i64 old, .bool dr, .bool true]) (by simp [results, Try.results15, go_sem]) rfl ?_
  obtain ⟨⟨d1, d2, d3, d4, d5, d6⟩, ⟨e1, e2, e3, e4, e5⟩, ⟨i1, i2, i3, i4⟩, ⟨j1, j2, j3⟩, ⟨k1, k2⟩, _⟩ := D1.out
  have AS : Away (fun b => b = k.L ∨ RgB k.R2 k.A2 b ∨ RgB k.R3 k.A3 b) w wc := (A8.out.mono fun b hb => by rcases hb with e | e; exact Or.inl e; exact Or.inr (Or.inl e)).trans (AX.out.mono fun b hb => Or.inr (Or.inr hb))
  have hmu : ∀ b, (b = k.L ∨ RgB k.R2 k.A2 b ∨ RgB k.R3 k.A3 b) → k.muts b := fun b hb => by rcases hb with e | e | e; exact Or.inl e; exact Or.inr (Or.inr (Or.inl e)); exact Or.inr (Or.inr (Or.inr e))
  have AM : Away k.muts w wc := AS.mono hmu
  have AE : Away (lnM k vo) w wc := AM.mono fun b hb => Or.inl hb
  have hv : ∀ b, vo.ownBlock = some b → vo.ownBlock = some b ∨ w.heap.size ≤ b := fun b hb => Or.inl hb
  have hE : ∀ b, (b = k.L ∨ RgB k.R2 k.A2 b ∨ RgB k.R3 k.A3 b) → lnE N k vo b := fun b hb => mut_E (hmu b hb)
  have hok := H.out.ok
  have hnew : RdOff ROu (lnE (Grew N w wc) k vo) wc [.int .i64 x.id, .slice bv body.length cv] (x.id, body) := fun w'' a => by
    refine ⟨_, rfl, ?_, HBL.out.2, HBL.out.1⟩
    have hs8 : SlI .u8 wc (.slice bv body.length cv) body := S8.out.off (fun b e hb => by
      have h1 := lnGeO O8.out e
      have h2 := A7.out.size
      rcases hb with hb | hb <;> omega) AX.out
    refine H.out.fresh (vo' := vo) hs8 (fun b e => ⟨Nat.le_trans A7.out.size (lnGeO O8.out e), Nat.lt_of_lt_of_le (lnLtO O8.out e) AX.out.size⟩) (fun b e => e) a
  have hq := pushed (R := ROu) (D := lnE (Grew N w wc) k vo) (w := wc) (room := s.room) (AC.out.mono fun c y hy => H.out.held hy AE hv) hnew
  have hret1 : old = ro := by rw [HOLD.out, hq3, outs_head AC.out]; exact HRO.out
  have hret2 : dr = rd := by rw [← HDR.out, hq3]; exact HRD.out
  rw [HRC.out] at hq
  rw [← hret1, ← hret2]
  refine ⟨rfl, H.out.make AM.size BX.out (H.out.r1.step AS (by rintro (e | (e | e) | (e | e)) <;> omega) (by rintro (e | (e | e) | (e | e)) <;> omega) hE fun b hb => Or.inl (lnE_sub H.out.own hv hb)) ⟨_, _, _, _, _, _, _, G8.out.away AX.out (by rintro (e | e) <;> omega) (by rintro (e | e) <;> omega), AQ.out.mono fun c y hy => H.out.held hy AE hv⟩ ⟨_, _, _, _, _, _, _, GX.out, hq⟩ (H.out.rows AM) ⟨hok.most, hok.row, hok.lt, hUQ, hok.src⟩, AM.mono fun b hb => H.out.muts b hb⟩
/-- A lane's Rewrite. -/
theorem rewrite_ln (h : LnX N w k vo s) : Calls Try.prog 15 #[.pointer (some ⟨k.L, 0, none⟩)] w fun e w' => e = .returned (.tuple #[.int .i64 (rewriteP s).2.1, .bool (rewriteP s).2.2.1, .bool (rewriteP s).2.2.2]) ∧ LnX (Grew N w w') w' k vo (rewriteP s).1 ∧ Away N w w' := by
  cases hB : s.B with
  | nil =>
    have e : rewriteP s = (s, 0, false, false) := by unfold rewriteP; rw [hB]
    rw [e]
    refine (rewrite_ln_no h (by show decide (0 < s.B.length) = false; rw [hB]; rfl)).mono ?_
    rintro e w' ⟨rfl, m⟩
    exact ⟨rfl, h.grow m, Away.of_more m⟩
  | cons y T =>
    obtain ⟨x, fi⟩ := y
    have e : rewriteP s = ((readyP { s with B := T, rw := stepP s.rw x.pk fi } (x.id, pkB (tellP s.rw x.pk fi))).1, (readyP { s with B := T, rw := stepP s.rw x.pk fi } (x.id, pkB (tellP s.rw x.pk fi))).2.1, (readyP { s with B := T, rw := stepP s.rw x.pk fi } (x.id, pkB (tellP s.rw x.pk fi))).2.2, true) := by unfold rewriteP; rw [hB]
    rw [e]
    have h1 := rewrite_ln_yes h x fi T hB (shL s.rw x.pk.st fi) ((x.pk.st + shL s.rw x.pk.st fi) % 4294967296) ((s.rw.sq + 1) % 65536) rfl rfl rfl
    by_cases hc : s.C.length < s.room
    · have e2 : readyP { s with B := T, rw := stepP s.rw x.pk fi } (x.id, pkB (tellP s.rw x.pk fi)) = ({ s with B := T, rw := stepP s.rw x.pk fi, C := s.C ++ [(x.id, pkB (tellP s.rw x.pk fi))] }, 0, false) := by unfold readyP; rw [if_pos hc]
      rw [e2]
      simp only [hc, if_true, not_true, decide_false] at h1
      exact h1
    · have e2 : readyP { s with B := T, rw := stepP s.rw x.pk fi } (x.id, pkB (tellP s.rw x.pk fi)) = ({ s with B := T, rw := stepP s.rw x.pk fi, C := s.C.tail ++ [(x.id, pkB (tellP s.rw x.pk fi))] }, (s.C.head?.map (·.1)).getD 0, true) := by unfold readyP; rw [if_neg hc]
      rw [e2]
      simp only [hc, if_false, not_false_iff, decide_true] at h1
      exact h1
end
end Go.Proofs.Ytdgmmffedhikcaa
