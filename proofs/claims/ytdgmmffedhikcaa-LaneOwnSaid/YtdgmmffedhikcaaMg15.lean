/- Merged from my texts LaneFO, LaneNO, LaneBC. -/
import Derived.Test.YtdgmmffedhikcaaMg14
import Derived.Maps.AppendAt
import Derived.Test.YtdgmmffedhikcaaMg13
import Derived.Test.YtdgmmffedhikcaaRows
import Derived.Test.YtdgmmffedhikcaaMg9
import Derived.Lib.Hide
/- Contracts of package ring at 78: Drain. (printed by gen_laneF.py) -/
namespace Go.Proofs.Ytdgmmffedhikcaa
set_option linter.unusedSimpArgs false
set_option linter.unusedVariables false
open Go.RowKit
set_option maxRecDepth 100000

theorem cellsO (c : List Value) (h : c.length = 2) : ∃ a0 a1, c = [a0, a1] := by
  match c, h with
  | [a0, a1], _ => exact ⟨a0, a1, rfl⟩
theorem lnOwnsO {S : Nat → Prop} {w w' : World} {base e n m : Nat} {v : Value} {xs : List Value} (h : w.ownsRow base e n v m xs) (a : Away S w w') (hS : ∀ b, base ≤ b → ¬ S b) : w'.ownsRow base e n v m xs := by
  obtain ⟨h1, h2⟩ := h
  refine ⟨h1, ?_⟩
  rcases h2 with h | ⟨b, cap, cur, e1, hb, hg, rest⟩
  · exact Or.inl h
  · exact Or.inr ⟨b, cap, cur, e1, hb, a.blk hg (hS b hb), rest⟩
theorem lnGeO {w : World} {base e size n b : Nat} {v : Value} {xs : List Value} (h : w.ownsRow base e size v n xs) (hb : v.ownBlock = some b) : base ≤ b := by
  rcases h.2 with ⟨rfl, _⟩ | ⟨g, cap, cur, rfl, hg, _⟩
  · cases hb
  · obtain rfl : g = b := by injection hb
    exact hg
theorem lnShapeO {w : World} {base e size n : Nat} {v : Value} {xs : List Value} (h : w.ownsRow base e size v n xs) : ∃ oa cap, v = .slice oa n cap := by
  rcases h.2 with ⟨rfl, h0⟩ | ⟨g, cap, cur, rfl, _⟩
  · exact ⟨none, 0, by rw [h0]⟩
  · exact ⟨_, cap, rfl⟩
set_option maxHeartbeats 8000000 in
theorem drainO (w : World) (R A room first : Nat) (q : List (List Value)) (ci co cd cg : Int) (css : List (List Value)) (h : RgAt 2 153 78 w R A room first q ci co cd cg css) :
    Calls Try.prog 88 #[.pointer (some ⟨R, 0, none⟩)] w fun e w' => ∃ v, e = .returned v ∧ w'.ownsRow w.heap.size 78 2 v q.length q.flatten ∧ (∃ first' cg' css', RgAt 2 153 78 w' R A room first' [] ci co cd cg' css') ∧ Away (RgB R A) w w' := by
  obtain ⟨i0, ii, iz0, iz1, iz2⟩ := info_parts (P := Try.prog) (e := 78) (z := .agg #[.int .i64 0, .slice none 0 0]) (size := 2) (bytes := 32) (by kernel_rfl)
  have H0 := Lib.hid h
  have hRw : R < w.heap.size := blk_lt h.ring
  have hAw : A < w.heap.size := blk_lt h.row
  have r2 : w.cell? ⟨R, 2, none⟩ = some (.int .i64 q.length) := blk_cell h.ring 2 rfl
  have hql : (q.length : Int) ≤ 8 := by have := h.fits; have := h.pos.2; omega
  have QA := Lib.hid h.qall
  clear h
  go_enter Try.func88, Try.ntmps88
  go_wp2
  go_loopw [3, 8] (fun u ix wr => ∃ (j f : Nat) (cs : List (List Value)), j ≤ q.length ∧ ix = .int .i64 j ∧ (∃ ou nu cu, u = .slice ou nu cu) ∧ wr.ownsRow w.heap.size 78 2 u j (q.take j).flatten ∧ RgAt 2 153 78 wr R A room f (q.drop j) ci co cd cg cs ∧ Away (RgB R A) w wr) (fun _ ix _ => q.length - (intOf ix).toNat)
  case atStart => exact ⟨0, first, css, by omega, rfl, ⟨_, _, _, rfl⟩, World.ownsRow_nil w _ _ _, H0.out, Away.refl _ _⟩
  case round =>
    obtain ⟨j, f, cs, hj, rfl, ⟨ou, nu, cu, rfl⟩, ho, hr, ha⟩ := hrel
    have HO := Lib.hid ho
    have HR := Lib.hid hr
    have HA := Lib.hid ha
    clear ho hr ha
    by_cases hlt : j < q.length
    · have hd : q.drop j = q[j] :: q.drop (j + 1) := List.drop_eq_getElem_cons hlt
      have htk : q.take (j + 1) = q.take j ++ [q[j]] := by rw [List.take_add_one, List.getElem?_eq_getElem hlt]; rfl
      have hc := QA.out q[j] (List.getElem_mem hlt)
      have hjl : (j : Int) < (q.length : Int) := by omega
      obtain ⟨c, hcd⟩ : ∃ c, Hid (c = q[j]) := ⟨_, Lib.hid rfl⟩
      rw [← hcd.out] at hd htk hc
      have HR1 := Lib.hid (hd ▸ HR.out)
      have HTK := Lib.hid htk
      have hcs : c.toArray.size = 2 := by simpa using hc.1
      clear hd htk HR
      obtain ⟨a0, a1, rfl⟩ := cellsO c hc.1
      go_wp2_with (first | (go_at_call 78; ((with_reducible refine (takeO wr R A room f [a0, a1] (q.drop (j + 1)) ci co cd cg cs HR1.out).mono ?_); rintro e w5 ⟨rfl, h5, a5⟩; have H5 := Lib.hid h5; have A5 := Lib.hid a5; have O5 := Lib.hid (lnOwnsO HO.out a5 (fun b hb e => by rcases e with e | e <;> omega)); have Z5 : Hid (w.heap.size ≤ w5.heap.size) := Lib.hid (Nat.le_trans HA.out.size a5.size); clear h5 a5)) | (at_builtin; refine wpList_append_own_at _ rfl (.tmp 10) (.tmp 13) 64 rfl w.heap.size 78 i0 (.agg #[.int .i64 0, .slice none 0 0]) 2 32 Try.underlying64 ii iz0 iz1 iz2 rfl (by decide) _ j (q.take j).flatten rfl (lnOwnsO O5.out (Away.of_more (More.alloc _ _)) (fun b _ e => e)) ⟨w5.heap.size, 0, none⟩ 1 1 [a0, a1] rfl rfl (fun i u hu => by have := lnRange (cs := [a0, a1]) (t := 78) (blk_new w5 (.cells #[a0, a1] 78)) i u hu; rw [Addr.add_mid]; exact this) hc.2 (by unfold maxLen; omega) (by omega) (by have := Z5.out; simp; omega) ?_; intro v6 w6 ho hg hn hx6; have O6 := Lib.hid ho; have A6 : Hid (Away (RgB R A) w w6) := Lib.hid (((HA.out.trans A5.out).alc _).grown hg (fun b hb => lnGeO O5.out hb)); have H6 : Hid (RgAt 2 153 78 w6 R A room ((f + 1) % room) (q.drop (j + 1)) ci co cd cg (cs.set f [.int .i64 0, .slice none 0 0])) := Lib.hid ((H5.out.more (More.alloc _ _)).away (Away.of_grown hg) (fun e => by have := lnGeO O5.out e; omega) (fun e => by have := lnGeO O5.out e; omega)); obtain ⟨o6, c6, rfl⟩ := lnShapeO ho; clear ho hg hn hx6))
      go_roundw
      case rel => exact ⟨j + 1, (f + 1) % room, _, by omega, by go_num, ⟨_, _, _, rfl⟩, by rw [HTK.out, List.flatten_append]; simpa using O6.out, H6.out, A6.out⟩
      case measure => simp [intOf]; omega
    · obtain rfl : j = q.length := by omega
      have r7 : wr.cell? ⟨R, 7, none⟩ = some (.int .i64 cg) := blk_cell HR.out.ring 7 rfl
      have fr7 : wr.frozen? ⟨R, 7, none⟩ = false := blk_free HR.out.ring 7
      go_wp2
      go_ret
      have hz : q.drop q.length = [] := by simp
      have ht : q.take q.length = q := by simp
      have HR2 := HR.out
      have HO2 := HO.out
      rw [hz] at HR2
      rw [ht] at HO2
      exact ⟨_, rfl, lnOwnsO HO2 ((Away.refl (fun b => b = R) _).set rfl _) (fun b hb e => by omega), ⟨_, _, _, HR2.drained _⟩, HA.out.set (Or.inl rfl) _⟩
end Go.Proofs.Ytdgmmffedhikcaa
/- Contracts of lane.ids at manifold/lane.Out. (printed by gen_laneN.py) -/
namespace Go.Proofs.Ytdgmmffedhikcaa
set_option linter.unusedSimpArgs false
set_option linter.unusedVariables false
open Go.RowKit
set_option maxRecDepth 100000

theorem drainO1 (i : Int) (c : List Value) (hc : c.length = 1) (w : World) : Calls Try.prog 89 #[.agg (.int .i64 i :: c).toArray] w fun e w' => e = .returned (.int .i64 i) ∧ More w w' := by
  obtain ⟨a0, a1, h⟩ := cellsO (.int .i64 i :: c) (by simp [hc])
  obtain ⟨rfl, rfl⟩ : a0 = .int .i64 i ∧ c = [a1] := by
    injection h with h1 h2
    exact ⟨h1.symm, h2⟩
  clear h hc
  go_enter Try.func89, Try.ntmps89
  go_wp2
  go_ret
  exact ⟨rfl, (by repeat (first | exact More.refl _ | assumption | refine More.dr ?_ _ | refine More.al ?_ _ | refine More.st ?_ (by simp) _))⟩
set_option maxHeartbeats 4000000 in
theorem idsO (w : World) (v : Value) (q : List (List Value)) (base : Nat) (row : w.ownsRow base 78 2 v q.length q.flatten) (hq : ∀ c ∈ q, ∃ i r, c = .int .i64 i :: r ∧ r.length = 1) (h1 : ∀ c ∈ q, ∀ u ∈ c, u.oneCell' = true) (hl : q.length ≤ 8) :
    Calls Try.prog 87 #[v, .func (.func 89) #[] #[]] w fun e w' => (∃ v', e = .returned v' ∧ w'.ownsRow w.heap.size 3 1 v' (q.map idN).length ((q.map idN).map (Value.int .i64))) ∧ More w w' := by
  obtain ⟨i0, hi, hz0, hz1, hz2⟩ := info_parts (P := Try.prog) (e := 3) (z := .int .i64 0) (size := 1) (bytes := 8) (by kernel_rfl)
  obtain ⟨oa, cap, rfl, hrow⟩ := lnRowAt row (fun c hc => by obtain ⟨i, r, rfl, hr⟩ := hq c hc; simp [hr])
  have HR := Lib.hid hrow
  have HQ := Lib.hid hq
  have HU := Lib.hid h1
  clear row hrow hq h1
  go_enter Try.func87, Try.ntmps87
  go_wp2
  go_loopw [5, 10] (fun u ix wr => ∃ j : Nat, j ≤ q.length ∧ ix = .int .i64 j ∧ (∃ ou nu cu, u = .slice ou nu cu) ∧ wr.ownsRow w.heap.size 3 1 u ((q.take j).map idN).length (((q.take j).map idN).map (Value.int .i64)) ∧ More w wr) (fun _ ix _ => q.length - (intOf ix).toNat)
  case atStart => exact ⟨0, by omega, rfl, ⟨_, _, _, rfl⟩, World.ownsRow_nil w _ _ _, More.refl _⟩
  case round =>
    obtain ⟨j, hj, rfl, ⟨ou, nu, cu, rfl⟩, ho, hm⟩ := hrel
    have HO := Lib.hid ho
    have HM := Lib.hid hm
    clear ho hm
    by_cases hlt : j < q.length
    · have hlti : (j : Int) < (q.length : Int) := by omega
      have htk : (q.take (j + 1)).map idN = (q.take j).map idN ++ [idN q[j]] := by rw [List.take_add_one, List.getElem?_eq_getElem hlt, List.map_append]; rfl
      obtain ⟨b, rfl, hb, hg⟩ := HR.out j hlt
      have hgd : q.getD j [] = q[j] := by rw [List.getD_eq_getElem?_getD, List.getElem?_eq_getElem hlt]; rfl
      have HG := Lib.hid (hg wr HM.out)
      rw [hgd] at HG
      obtain ⟨id, r, hqj, hr⟩ := HQ.out q[j] (List.getElem_mem hlt)
      rw [hqj] at htk HG
      have HTK : Hid ((q.take (j + 1)).map idN = (q.take j).map idN ++ [id]) := Lib.hid htk
      have hu := HU.out q[j] (List.getElem_mem hlt)
      rw [hqj] at hu
      obtain ⟨c, hc⟩ : ∃ c, c = .int .i64 id :: r := ⟨_, rfl⟩
      have hcd := drainO1 id r hr
      rw [← hc] at HG hu hcd
      have hcl : c.length = 2 := by rw [hc]; simp [hr]
      have hcs : c.toArray.size = 2 := by simpa using hcl
      have HD := Lib.hid hcd
      clear hc hcd
      clear hgd hg hqj htk
      have c1 : (((q.take j).map idN).length + [id].length) * 8 ≤ 140737488355328 := (by simp; omega)
      go_wp2_with (first | (refine lnIf (.load 78 (.tmp 12)) rfl ?_; refine wpList_load_mid rfl 78 (.tmp 12) rfl b (j * 2) rfl c _ HG.out Try.underlying78 rfl (by rw [hcl]; kernel_rfl) ?_) | (refine lnIf (.store 78 (.tmp 7) (.tmp 13)) rfl ?_; refine lnStore rfl 78 (.tmp 7) (.tmp 13) rfl wr.heap.size 78 _ c.toArray (blk_new wr _) rfl rfl (by rw [hcs]; kernel_rfl) (by rw [hcs]; rfl) (all_oneCell_toArray hu) ?_; have B1 := Lib.hid (lnBlk (blk_new wr (.cells #[.int .i64 0, .slice none 0 0] 78)) c.toArray)) | (refine lnIf (.load 78 (.tmp 7)) rfl ?_; refine lnLoad rfl 78 (.tmp 7) rfl wr.heap.size 78 c.toArray _ B1.out rfl Try.underlying78 rfl (by rw [hcs]; kernel_rfl) ?_) | (refine (HD.out _).mono ?_; rintro e w1 ⟨rfl, m1⟩; have M1 : Hid (More wr w1) := Lib.hid (((lnAway _ _ _).to_more (More.alloc _ _) (fun k e => by rw [e]; exact Nat.le_refl _)).trans m1); clear m1) | (at_builtin; refine wpList_append_sl _ rfl (.tmp 14) (.tmp 18) 86 rfl w.heap.size 3 i0 (.int .i64 0) 8 Try.underlying86 hi hz0 hz1 hz2 rfl _ .i64 ((q.take j).map idN) rfl (lnOwnsI HO.out (S := fun _ => False) ((Away.of_more M1.out).alc _) (fun _ _ h => h)) _ [id] rfl (SlI.lit .i64 w1 [id] 3 _ 1 _ (by simp) rfl rfl (by simp)) c1 (by decide) (Nat.le_trans (HM.out.trans M1.out).size (More.alloc _ _).size) ?_; intro v2 w2 hown2 hg2; have O2 := Lib.hid hown2; have M2 : Hid (More w w2) := Lib.hid ((Away.of_more (S := fun _ => False) ((HM.out.trans M1.out).al _)).grown hg2 (fun k hk => lnGeI HO.out hk) |>.to_more (More.refl _) (fun k e => e.elim)); obtain ⟨o2, c2, rfl⟩ := lnShapeI hown2; clear hown2 hg2))
      go_roundw
      case rel => exact ⟨j + 1, by omega, by go_num, ⟨_, _, _, rfl⟩, by rw [HTK.out]; have O3 := O2.out; have hn : ((q.take j).map idN ++ [id]).length = j + 1 := (by simp; omega); (rw [hn] at O3 ⊢; exact O3), M2.out⟩
      case measure => simp [intOf]; omega
    · obtain rfl : j = q.length := by omega
      have hnl : ¬ (q.length : Int) < (q.length : Int) := by omega
      go_wp2
      go_ret
      have ht : q.take q.length = q := by simp
      have HO2 := HO.out
      rw [ht] at HO2
      exact ⟨⟨_, rfl, by simpa using HO2⟩, HM.out⟩
end Go.Proofs.Ytdgmmffedhikcaa
/- Contracts of package ring at 99. (printed by gen_laneB.py) -/
namespace Go.Proofs.Ytdgmmffedhikcaa
set_option linter.unusedSimpArgs false
set_option linter.unusedVariables false
open Go.RowKit
set_option maxRecDepth 100000

theorem zeroC (w : World) : (zeroValue 99).run Try.prog w = .ok (.agg #[.int .i64 0, .int .i64 0, .bool false, .bool false, .int .u8 0, .int .u16 0, .int .u32 0, .int .u32 0, .slice none 0 0, .bool false, .int .u16 0, .slice none 0 0, .slice none 0 0, .bool false]) w := by kernel_rfl
theorem zsC : (Builtin.zeroCells (Value.agg #[.int .i64 0, .int .i64 0, .bool false, .bool false, .int .u8 0, .int .u16 0, .int .u32 0, .int .u32 0, .slice none 0 0, .bool false, .int .u16 0, .slice none 0 0, .slice none 0 0, .bool false]).cells 1).toList = [.int .i64 0, .int .i64 0, .bool false, .bool false, .int .u8 0, .int .u16 0, .int .u32 0, .int .u32 0, .slice none 0 0, .bool false, .int .u16 0, .slice none 0 0, .slice none 0 0, .bool false] := by kernel_rfl
theorem zokC : ([.int .i64 0, .int .i64 0, .bool false, .bool false, .int .u8 0, .int .u16 0, .int .u32 0, .int .u32 0, .slice none 0 0, .bool false, .int .u16 0, .slice none 0 0, .slice none 0 0, .bool false] : List Value).length = 14 ∧ ∀ u ∈ ([.int .i64 0, .int .i64 0, .bool false, .bool false, .int .u8 0, .int .u16 0, .int .u32 0, .int .u32 0, .slice none 0 0, .bool false, .int .u16 0, .slice none 0 0, .slice none 0 0, .bool false] : List Value), u.oneCell' = true := ⟨rfl, by simp [Value.oneCell']⟩
set_option maxHeartbeats 4000000 in
theorem takeC (w : World) (R A room first : Nat) (c : List Value) (T : List (List Value)) (ci co cd cg : Int) (css : List (List Value)) (h : RgAt 14 151 99 w R A room first (c :: T) ci co cd cg css) :
    Calls Try.prog 70 #[.pointer (some ⟨R, 0, none⟩)] w fun e w' => e = .returned (.agg c.toArray) ∧ RgAt 14 151 99 w' R A room ((first + 1) % room) T ci co cd cg (css.set first [.int .i64 0, .int .i64 0, .bool false, .bool false, .int .u8 0, .int .u16 0, .int .u32 0, .int .u32 0, .slice none 0 0, .bool false, .int .u16 0, .slice none 0 0, .slice none 0 0, .bool false]) ∧ Away (RgB R A) w w' := by
  have H0 := Lib.hid h
  have hc := h.ofHead
  have hcs : c.toArray.size = 14 := by simpa using hc.1
  have hf := h.fst
  have hfi : (first : Int) < (room : Int) := by have := h.fst; omega
  have hfi0 : 0 ≤ (first : Int) := by omega
  have hp1 := h.pos.1
  have hp2 := h.pos.2
  have hql : ((c :: T).length : Int) ≤ 8 := by have := h.fits; have := h.pos.2; omega
  clear h
  go_enter Try.func70, Try.ntmps70
  go_wp2
  obtain ⟨W1, hW1⟩ : ∃ W1, w.alloc (.cells #[.int .i64 0, .int .i64 0, .bool false, .bool false, .int .u8 0, .int .u16 0, .int .u32 0, .int .u32 0, .slice none 0 0, .bool false, .int .u16 0, .slice none 0 0, .slice none 0 0, .bool false] 99) = W1 := ⟨_, rfl⟩
  have M1 : Hid (More w W1) := Lib.hid (by rw [← hW1]; exact More.alloc _ _)
  have H1 : Hid (RgAt 14 151 99 W1 R A room first (c :: T) ci co cd cg css) := Lib.hid (H0.out.more M1.out)
  have B1 : Hid (W1.heap[w.heap.size]? = some (.cells #[.int .i64 0, .int .i64 0, .bool false, .bool false, .int .u8 0, .int .u16 0, .int .u32 0, .int .u32 0, .slice none 0 0, .bool false, .int .u16 0, .slice none 0 0, .slice none 0 0, .bool false] 99 (0, 0))) := Lib.hid (by rw [← hW1]; exact blk_new w _)
  have hRw : R < w.heap.size := blk_lt H0.out.ring
  have hAw : A < w.heap.size := blk_lt H0.out.row
  rw [hW1]
  have hws : w.heap.size < W1.heap.size := blk_lt B1.out
  generalize hrc : w.heap.size = rc at *
  clear hW1
  have L0 : ∀ x : Later W1, x.w'.cell? ⟨R, 0, none⟩ = some (.slice (some ⟨A, 0, none⟩) room room) := fun x => x.cell (blk_lt H1.out.ring) (blk_cell H1.out.ring 0 rfl)
  have L1 : ∀ x : Later W1, x.w'.cell? ⟨R, 1, none⟩ = some (.int .i64 first) := fun x => x.cell (blk_lt H1.out.ring) (blk_cell H1.out.ring 1 rfl)
  refine wp_region_num W1 11 [(0, false), (1, false), (2, false), (3, false), (4, false), (5, false), (6, false), (7, false), (8, false), (9, false), (10, true), (11, true)] (by kernel_rfl) (by kernel_rfl) ?_
  iterate 9 (refine num_quiet rfl rfl (later_mk (by repeat (first | exact More.refl _ | assumption | refine More.dr ?_ _ | refine More.al ?_ _ | refine More.st ?_ (by simp) _))) ?_; intro K hK; go_big_quiet_op; go_big_quiet_on)
  have HG : ∀ x : Later W1, x.w'.rangeAt A (first * 14) c := fun x => by have := (H1.out.more x.h).range hf; rw [H1.out.head] at this; exact this
  refine num_load_mid rfl rfl (later_mk (by repeat (first | exact More.refl _ | assumption | refine More.dr ?_ _ | refine More.al ?_ _ | refine More.st ?_ (by simp) _))) 99 (.tmp 12) rfl A (first * 14) rfl c _ (fun w' hx => by obtain ⟨x, rfl⟩ := hx; exact HG x) Try.underlying99 rfl (by rw [hc.1]; kernel_rfl) ?_
  intro K hK
  go_simp
  refine hK _ ?_
  clear hK K
  (refine num_next rfl rfl ?_; intro K hK; unfold loud; go_simp)
  refine ⟨later_mk (by repeat (first | exact More.refl _ | assumption | refine More.dr ?_ _ | refine More.al ?_ _ | refine More.st ?_ (by simp) _)), hK _ _ ?_⟩
  clear hK K
  refine num_end rfl rfl (by decide) ?_
  intro K hK
  refine loud_store_all 99 (.tmp 3) (.tmp 13) rfl W1.heap.size 99 _ c.toArray rfl rfl (blk_new _ _) (by rw [hcs]; kernel_rfl) (by rw [hcs]; rfl) (all_oneCell_toArray hc.2) ?_
  refine ⟨trivial, ?_⟩
  go_simp
  refine hK _ _ ?_
  clear hK K
  refine num_nil ?_
  obtain ⟨W2, hW2⟩ : ∃ W2, ((W1.drewN 1).alloc (.cells #[.int .i64 0, .int .i64 0, .bool false, .bool false, .int .u8 0, .int .u16 0, .int .u32 0, .int .u32 0, .slice none 0 0, .bool false, .int .u16 0, .slice none 0 0, .slice none 0 0, .bool false] 99)).setRow W1.heap.size c.toArray = W2 := ⟨_, rfl⟩
  have X2 : Hid (W2.heap[W1.heap.size]? = some (.cells c.toArray 99 (0, 0))) := Lib.hid (by rw [← hW2]; exact lnBlk (blk_new _ _) _)
  have M2 : Hid (More W1 W2) := Lib.hid (by rw [← hW2]; exact (lnAway _ _ _).to_more (((More.refl W1).dr 1).al _) (fun k e => by rw [e]; exact Nat.le_refl _))
  have H2 := Lib.hid (H1.out.more M2.out)
  have B2 := Lib.hid (blk_more M2.out B1.out)
  have hRW : R < W1.heap.size := Nat.lt_of_lt_of_le (by omega) (Nat.le_of_lt hws)
  have hAW : A < W1.heap.size := Nat.lt_of_lt_of_le (by omega) (Nat.le_of_lt hws)
  rw [hW2]
  generalize W1.heap.size = xc at *
  clear hW2 L0 L1 HG B1 H1
  go_wp2_with fail
  have L0 : ∀ x : LaterS (fun b => b = A) W2, x.w'.cell? ⟨R, 0, none⟩ = some (.slice (some ⟨A, 0, none⟩) room room) := fun x => x.cell (blk_lt H2.out.ring) H2.out.ne (blk_cell H2.out.ring 0 rfl)
  have L1 : ∀ x : LaterS (fun b => b = A) W2, x.w'.cell? ⟨R, 1, none⟩ = some (.int .i64 first) := fun x => x.cell (blk_lt H2.out.ring) H2.out.ne (blk_cell H2.out.ring 1 rfl)
  refine wp_region_numS (fun b => b = A) W2 15 [(0, false), (1, false), (2, false), (3, false), (4, false), (5, false), (6, false), (7, false), (8, false), (9, false), (10, false), (11, false), (12, false), (13, false), (14, true)] (by kernel_rfl) (by kernel_rfl) ?_
  iterate 14 (refine num_quiet rfl rfl (laterS_mk (by repeat (first | exact Away.refl _ _ | assumption | refine Away.drewN ?_ _ | refine Away.set ?_ (by first | rfl | exact Or.inl rfl | exact Or.inr rfl) _))) ?_; intro K hK; go_big_quiet_op; go_big_quiet_on)
  refine num_next rfl rfl ?_
  intro K hK
  have hcl := run_clear_in (P := Try.prog) (W2.drewN 1) 149 0 99 _ [.int .i64 0, .int .i64 0, .bool false, .bool false, .int .u8 0, .int .u16 0, .int .u32 0, .int .u32 0, .slice none 0 0, .bool false, .int .u16 0, .slice none 0 0, .slice none 0 0, .bool false] Try.underlying149 zeroC zsC A (first * 14) (room - first) css.flatten.toArray (blk_drewN H2.out.row 1) (by rw [H2.out.size]; have := Nat.mul_le_mul_right 14 (show first + 1 ≤ room by omega); simp; omega) zokC.2
  simp only [List.toList_toArray] at hcl
  unfold loud
  go_simp
  refine ⟨laterS_mk (((Away.refl (fun b => b = A) W2).drewN 1).row (g := A) rfl _), hK _ _ ?_⟩
  clear hK K hcl L0 L1
  refine num_nil ?_
  obtain ⟨W3, hW3⟩ : ∃ W3, (W2.drewN 1).setRow A (lnPut css.flatten (first * 14) [.int .i64 0, .int .i64 0, .bool false, .bool false, .int .u8 0, .int .u16 0, .int .u32 0, .int .u32 0, .slice none 0 0, .bool false, .int .u16 0, .slice none 0 0, .slice none 0 0, .bool false]).toArray = W3 := ⟨_, rfl⟩
  have A3 : Hid (Away (RgB R A) W2 W3) := Lib.hid (by rw [← hW3]; exact ((Away.refl _ _).drewN 1).row (Or.inr rfl) _)
  have G3 : Hid (W3.heap[R]? = some (.cells (rgCells A room first (c :: T).length ci co cd cg) 151 (0, 0))) := Lib.hid (by rw [← hW3]; exact lnOther (blk_drewN H2.out.ring 1) _ H2.out.ne)
  have P3 : Hid (W3.heap[A]? = some (.cells (css.set first [.int .i64 0, .int .i64 0, .bool false, .bool false, .int .u8 0, .int .u16 0, .int .u32 0, .int .u32 0, .slice none 0 0, .bool false, .int .u16 0, .slice none 0 0, .slice none 0 0, .bool false]).flatten.toArray 99 (0, 0))) := Lib.hid (by rw [← hW3, ← lnSet css first _ H2.out.cl zokC.1 (by rw [H2.out.len]; exact hf)]; exact lnBlk (blk_drewN H2.out.row 1) _)
  have X3 : Hid (W3.heap[xc]? = some (.cells c.toArray 99 (0, 0))) := Lib.hid (by rw [← hW3]; exact lnOther (blk_drewN X2.out 1) _ (by omega))
  have B3 : Hid (W3.heap[rc]? = some (.cells #[.int .i64 0, .int .i64 0, .bool false, .bool false, .int .u8 0, .int .u16 0, .int .u32 0, .int .u32 0, .slice none 0 0, .bool false, .int .u16 0, .slice none 0 0, .slice none 0 0, .bool false] 99 (0, 0))) := Lib.hid (by rw [← hW3]; exact lnOther (blk_drewN B2.out 1) _ (by omega))
  rw [hW3]
  clear hW3 X2 B2
  go_wp2_with fail
  have L0 : ∀ x : Later W3, x.w'.cell? ⟨R, 0, none⟩ = some (.slice (some ⟨A, 0, none⟩) room room) := fun x => x.cell (blk_lt G3.out) (blk_cell G3.out 0 rfl)
  have L1 : ∀ x : Later W3, x.w'.cell? ⟨R, 1, none⟩ = some (.int .i64 first) := fun x => x.cell (blk_lt G3.out) (blk_cell G3.out 1 rfl)
  have fr1 : W3.frozen? ⟨R, 1, none⟩ = false := blk_free G3.out 1
  have r1 : W3.cell? ⟨R, 1, none⟩ = some (.int .i64 first) := blk_cell G3.out 1 rfl
  refine wp_region_num W3 14 [(0, false), (1, false), (2, false), (3, false), (4, false), (5, false), (6, false), (7, false), (8, false), (9, false), (10, false), (11, false), (12, true), (13, false), (14, true)] (by kernel_rfl) (by kernel_rfl) ?_
  iterate 12 (refine num_quiet rfl rfl (later_mk (by repeat (first | exact More.refl _ | assumption | refine More.dr ?_ _ | refine More.al ?_ _ | refine More.st ?_ (by simp) _))) ?_; intro K hK; go_big_quiet_op; go_big_quiet_on)
  (refine num_next rfl rfl ?_; intro K hK; unfold loud; go_simp)
  refine ⟨later_mk (by repeat (first | exact More.refl _ | assumption | refine More.dr ?_ _ | refine More.al ?_ _ | refine More.st ?_ (by simp) _)), hK _ _ ?_⟩
  clear hK K
  iterate 1 (refine num_quiet rfl rfl (later_mk (by repeat (first | exact More.refl _ | assumption | refine More.dr ?_ _ | refine More.al ?_ _ | refine More.st ?_ (by simp) _))) ?_; intro K hK; go_big_quiet_op; go_big_quiet_on)
  (refine num_end rfl rfl (by decide) ?_; intro K hK; unfold loud; go_simp)
  refine hK _ _ ?_
  clear hK K L0 L1
  refine num_nil ?_
  have e1 : ((first : Int) + 1) % (room : Int) = (((first + 1) % room : Nat) : Int) := by rw [Int.natCast_emod]; rfl
  rw [e1]
  obtain ⟨W4, hW4⟩ : ∃ W4, (W3.drewN 1).setCell ⟨R, 1, none⟩ (.int .i64 ((first + 1) % room : Nat)) = W4 := ⟨_, rfl⟩
  have A4 : Hid (Away (RgB R A) W2 W4) := Lib.hid (by rw [← hW4]; exact (A3.out.drewN 1).set (Or.inl rfl) _)
  have G4 : Hid (W4.heap[R]? = some (.cells (rgCells A room ((first + 1) % room) (c :: T).length ci co cd cg) 151 (0, 0))) := Lib.hid (by rw [← hW4]; exact blk_eq (blk_set (blk_drewN G3.out 1) 1 _) rfl)
  have P4 : Hid (W4.heap[A]? = some (.cells (css.set first [.int .i64 0, .int .i64 0, .bool false, .bool false, .int .u8 0, .int .u16 0, .int .u32 0, .int .u32 0, .slice none 0 0, .bool false, .int .u16 0, .slice none 0 0, .slice none 0 0, .bool false]).flatten.toArray 99 (0, 0))) := Lib.hid (by rw [← hW4]; exact blk_other (blk_drewN P3.out 1) _ _ (Ne.symm H2.out.ne))
  have X4 : Hid (W4.heap[xc]? = some (.cells c.toArray 99 (0, 0))) := Lib.hid (by rw [← hW4]; exact blk_other (blk_drewN X3.out 1) _ _ (by show xc ≠ R; omega))
  have B4 : Hid (W4.heap[rc]? = some (.cells #[.int .i64 0, .int .i64 0, .bool false, .bool false, .int .u8 0, .int .u16 0, .int .u32 0, .int .u32 0, .slice none 0 0, .bool false, .int .u16 0, .slice none 0 0, .slice none 0 0, .bool false] 99 (0, 0))) := Lib.hid (by rw [← hW4]; exact blk_other (blk_drewN B3.out 1) _ _ (by show rc ≠ R; omega))
  rw [hW4]
  clear hW4 A3 G3 P3 X3 B3 fr1 r1 e1
  have r2 : W4.cell? ⟨R, 2, none⟩ = some (.int .i64 (c :: T).length) := blk_cell G4.out 2 rfl
  have fr2 : W4.frozen? ⟨R, 2, none⟩ = false := blk_free G4.out 2
  have eT : (((c :: T).length : Nat) : Int) - 1 = (T.length : Int) := by simp
  go_wp2_with (first | (refine lnLoad rfl 99 (.tmp 3) rfl xc 99 c.toArray _ (blk_other X4.out _ _ (by show xc ≠ R; omega)) rfl Try.underlying99 rfl (by rw [hcs]; kernel_rfl) ?_) | (refine lnStore rfl 99 (.tmp 2) (.tmp 49) rfl rc 99 _ c.toArray (blk_other B4.out _ _ (by show rc ≠ R; omega)) rfl rfl (by rw [hcs]; kernel_rfl) (by rw [hcs]; rfl) (all_oneCell_toArray hc.2) ?_))
  have hne : R ≠ A := H2.out.ne
  refine bodyPost_ret (v := .agg c.toArray) (results_cell_row Try.results70 _ _ rc 99 c.toArray (0, 0) _ rfl (lnBlk (blk_other B4.out _ _ (by show rc ≠ R; omega)) _) Try.underlying99 rfl (by rw [hcs]; kernel_rfl)) rfl ?_
  refine ⟨rfl, ?_, ?_⟩
  · exact H2.out.took zokC (lnOther (blk_eq (blk_set G4.out 2 _) (by simp [rgCells])) _ (by omega)) (lnOther (blk_other P4.out _ _ (Ne.symm hne)) _ (by omega))
  · exact (((Away.of_more (M1.out.trans M2.out)).trans A4.out).set (Or.inl rfl) _).rowNew (by omega) _
end Go.Proofs.Ytdgmmffedhikcaa
