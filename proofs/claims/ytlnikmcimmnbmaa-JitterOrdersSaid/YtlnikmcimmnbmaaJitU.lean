/- The law JitterOrders, walked. -/
import Derived.Test.YtlnikmcimmnbmaaJitT
import Derived.Test.YtlnikmcimmnbmaaSliceB
import Derived.Test.YtlnikmcimmnbmaaRowS
import Derived.Deep.Cut
import Derived.Deep.CutRange
import Derived.Deep.CutBlock
namespace Go.Proofs.Ytlnikmcimmnbmaa
set_option linter.unusedSimpArgs false
set_option linter.unusedVariables false
open Go.RowKit Go.Lib
set_option maxRecDepth 100000

theorem owns_geJ {w : World} {base e size n b : Nat} {v : Value} {xs : List Value} (h : w.ownsRow base e size v n xs) (hb : v.ownBlock = some b) : base ≤ b := by
  rcases h.2 with ⟨rfl, _⟩ | ⟨g, cap, cur, rfl, hg, _⟩
  · cases hb
  · obtain rfl : g = b := by injection hb
    exact hg

theorem JO_no (room wait f : Int) (v : Value) (w : World) (h : ¬ newOK room wait) :
    Calls Try.prog 12 #[.int .i64 room, .int .i64 wait, .int .i64 f, v] w fun e w' => e = .returned (.bool true) ∧ More w w' := by
  have HN := Lib.hid (fun w => New_no room wait w h)
  clear h
  go_enter Try.func12, Try.ntmps12
  go_wp2_with (first | (go_at_call 52; ((with_reducible refine (awake12 _).mono ?_); rintro e w1 ⟨rfl, m1⟩; have M1 := Lib.hid m1; clear m1)) | (go_at_call 53; ((with_reducible refine (HN.out w1).mono ?_); rintro e w2 ⟨rfl, rfl⟩)))
  go_ret
  exact ⟨rfl, M1.out⟩
theorem JO_guard (room wait f : Int) (oa : Option Addr) (N cap : Nat) (w : World) (h : newOK room wait) (hx : f < 0 ∨ (0 ≤ f ∧ 1152921504606846956 < f) ∨ (0 ≤ f ∧ f ≤ 1152921504606846956 ∧ 40 < N)) :
    Calls Try.prog 12 #[.int .i64 room, .int .i64 wait, .int .i64 f, .slice oa N cap] w fun e w' => e = .returned (.bool true) ∧ More w w' := by
  have HN := Lib.hid (fun w => New_yes room wait w h)
  clear h
  rcases hx with h1 | ⟨h1, h2⟩ | ⟨h1, h2, h3⟩
  · go_enter Try.func12, Try.ntmps12
    go_wp2_with (first | (go_at_call 52; ((with_reducible refine (awake12 _).mono ?_); rintro e w1 ⟨rfl, m1⟩; have M1 := Lib.hid m1; clear m1)) | (go_at_call 53; ((with_reducible refine (HN.out w1).mono ?_); rintro e w2 ⟨rfl, _, m2, _⟩; have M2 := Lib.hid (M1.out.trans m2); clear m2)))
    go_ret
    exact ⟨rfl, M2.out⟩
  · have h1' : decide (f < 0) = false := decide_eq_false (by omega)
    go_enter Try.func12, Try.ntmps12
    go_wp2_with (first | (go_at_call 52; ((with_reducible refine (awake12 _).mono ?_); rintro e w1 ⟨rfl, m1⟩; have M1 := Lib.hid m1; clear m1)) | (go_at_call 53; ((with_reducible refine (HN.out w1).mono ?_); rintro e w2 ⟨rfl, _, m2, _⟩; have M2 := Lib.hid (M1.out.trans m2); clear m2)))
    go_ret
    exact ⟨rfl, M2.out⟩
  · have h1' : decide (f < 0) = false := decide_eq_false (by omega)
    have h2' : decide (1152921504606846956 < f) = false := decide_eq_false (by omega)
    have h3' : (40 : Int) < (N : Int) := by omega
    clear h3
    go_enter Try.func12, Try.ntmps12
    go_wp2_with (first | (go_at_call 52; ((with_reducible refine (awake12 _).mono ?_); rintro e w1 ⟨rfl, m1⟩; have M1 := Lib.hid m1; clear m1)) | (go_at_call 53; ((with_reducible refine (HN.out w1).mono ?_); rintro e w2 ⟨rfl, _, m2, _⟩; have M2 := Lib.hid (M1.out.trans m2); clear m2)))
    go_ret
    exact ⟨rfl, M2.out⟩
/-- What the loop over the numbers holds. -/
structure Or12 (w0 wr : World) (R CB : Nat) (v v5 : Value) (row : List Int) (b : Jb) (room f : Int) (cs : List Bool) (j : Nat) : Prop where
  run : Run12 w0 wr R v b
  ord : Ord12 b room f cs
  blk : wr.heap[CB]? = some (.cells (cs.map Value.bool).toArray 115 (0, 0))
  new : w0.heap.size ≤ CB
  ne : CB ≠ R
  nv : v.ownBlock ≠ some CB
  sl : SlI .u8 wr v5 row
  v5R : v5.ownBlock ≠ some R
  v5C : v5.ownBlock ≠ some CB
  v5v : ∀ k, v5.ownBlock = some k → v.ownBlock ≠ some k
  v5l : ∀ k, v5.ownBlock = some k → k < wr.heap.size
  came : ∀ t, t < j → cs.getD (row.getD t 0 % room).toNat false = true
theorem Or12.step {w0 wr w' : World} {R CB : Nat} {v v' v5 : Value} {row : List Int} {b b' : Jb} {room f : Int} {cs : List Bool} {j : Nat} (h : Or12 w0 wr R CB v v5 row b room f cs j) (st : BStep wr w' R v v' b') (cs' : List Bool) (o : Ord12 b' room f cs')
    (i : Nat) (hcs : cs' = cs.set i true) (hi : i = (row.getD j 0 % room).toNat) (h9 : i < 9) : Or12 w0 (w'.setCell ⟨CB, i, none⟩ (.bool true)) R CB v' v5 row b' room f cs' (j + 1) := by
  have hb := st.away.blk h.blk (fun x => x.elim h.ne h.nv)
  have hCw := blk_lt h.blk
  have hv' : v'.ownBlock ≠ some CB := fun e => by
    rcases st.own with o | ⟨g, o, hg⟩
    · exact h.nv (by rw [← o]; exact e)
    · rw [o] at e; injection e with e; omega
  have hr := h.run.step o.ok st
  have a : Away (fun k => k = CB) w' (w'.setCell ⟨CB, i, none⟩ (.bool true)) := (Away.refl (fun k => k = CB) w').set (p := ⟨CB, i, none⟩) rfl _
  have hlen : cs.length = 9 := h.ord.len
  refine ⟨⟨⟨a.blk hr.buf.blk (fun e => h.ne e.symm), hr.buf.row.away a (fun k hk e => hv' (by rw [← e]; exact hk))⟩, hr.ok, Away.to_more hr.more a (fun k hk => by rw [hk]; exact h.new), hr.new, hr.own⟩, o, ?_, h.new, h.ne, hv', ?_, h.v5R, h.v5C, ?_, ?_, ?_⟩
  · refine blk_eq (blk_set hb i (.bool true)) ?_
    rw [hcs]
    simp [List.map_set]
  · refine SlI.off (D := fun k => k = CB) (SlI.off (D := fun k => k = R ∨ v.ownBlock = some k) h.sl (fun k hk x => ?_) st.away) (fun k hk x => h.v5C (by rw [hk, x])) a
    rcases x with x | x
    · exact h.v5R (by rw [hk, x])
    · exact h.v5v k hk x
  · intro k hk e
    rcases st.own with o | ⟨g, o, hg⟩
    · exact h.v5v k hk (by rw [← o]; exact e)
    · rw [o] at e; injection e with e; have := h.v5l k hk; omega
  · intro k hk
    exact Nat.lt_of_lt_of_le (h.v5l k hk) (Nat.le_trans st.away.size a.size)
  · intro t ht
    rw [hcs]
    refine set_has (by rw [hlen]; exact h9) ?_
    by_cases e : t = j
    · subst e; exact Or.inr hi.symm
    · exact Or.inl (h.came t (by omega))
theorem Or12.cell {w0 wr : World} {R CB : Nat} {v v5 : Value} {row : List Int} {b : Jb} {room f : Int} {cs : List Bool} {j : Nat} (h : Or12 w0 wr R CB v v5 row b room f cs j) (i : Nat) (h9 : i < 9) : wr.cell? ⟨CB, i, none⟩ = some (.bool (cs.getD i false)) := by
  refine blk_cell h.blk i ?_
  have := h.ord.len
  simp [List.getD_eq_getElem?_getD, List.getElem?_eq_getElem (show i < cs.length by omega)]

set_option maxHeartbeats 8000000 in
theorem JO_main (room wait f : Int) (l : List Int) (v : Value) (w : World) (sl : SlI .u8 w v l) (hby : Byt l) (h : newOK room wait) (h1 : 0 ≤ f) (h2 : f ≤ 1152921504606846956) (h3 : l.length ≤ 40) :
    Calls Try.prog 12 #[.int .i64 room, .int .i64 wait, .int .i64 f, v] w fun e w' => e = .returned (.bool true) ∧ More w w' := by
  have HN := Lib.hid (fun w => New_yes room wait w h)
  have HOK := Lib.hid h
  have SL := Lib.hid sl
  have HBY := Lib.hid hby
  have HF : Hid (Num60 f) := Lib.hid ⟨h1, by omega⟩
  have HP := Lib.hid (jo_push f h)
  have HQ := Lib.hid (jo_pop room wait f)
  have HJ1 := Lib.hid (jo1_ok h HF.out)
  have HJ2 := Lib.hid (jo2_ord h HF.out)
  obtain ⟨oa, cap, rfl, hl63, _⟩ := sl
  obtain ⟨hr1, hr8, hw0, hw1⟩ := h
  have h1' : decide (f < 0) = false := decide_eq_false (by omega)
  have h2' : decide (1152921504606846956 < f) = false := decide_eq_false (by omega)
  have h3' : decide ((40 : Int) < (l.length : Int)) = false := decide_eq_false (by omega)
  obtain ⟨i0, hi, hz0, hz1, hz2⟩ := info_parts (P := Try.prog) (e := 5) (z := .int .u8 0) (size := 1) (bytes := 1) (by kernel_rfl)
  have HZ : Hid (Num60 0) := Lib.hid ⟨by decide, by decide⟩
  clear hby
  go_enter Try.func12, Try.ntmps12
  go_upto_region 12 with (first | (go_at_call 52; ((with_reducible refine (awake12 _).mono ?_); rintro e w1 ⟨rfl, m1⟩; have M1 := Lib.hid m1; clear m1)) | (go_at_call 53; ((with_reducible refine (HN.out w1).mono ?_); rintro e w2 ⟨rfl, b2, m2, hz2⟩; have RU := Lib.hid (Run12.start b2 HOK.out (M1.out.trans m2) M1.out.size); clear m2 b2 hz2)) | (go_at_call 55; ((with_reducible refine (Push_any (newJ room wait) RU.out.ok _ _ f 0 0 HF.out _ RU.out.buf).mono ?_); rintro e w3 ⟨rfl, v3, s3⟩; rw [HP.out] at s3 ⊢; have R3 := Lib.hid (RU.out.step HJ1.out s3); clear s3)) | (go_at_call 57; ((with_reducible refine (Pop_any (jo1 room wait f) HJ1.out _ _ 0 HZ.out _ R3.out.buf).mono ?_); rintro e w4 ⟨rfl, v4, s4⟩; rw [HQ.out] at s4 ⊢; have R4 := Lib.hid (R3.out.step HJ2.out.ok s4); clear s4)))
  obtain ⟨WC, hWC⟩ : ∃ WC, w4.alloc (.cells #[.bool false, .bool false, .bool false, .bool false, .bool false, .bool false, .bool false, .bool false, .bool false] 115) = WC := ⟨_, rfl⟩
  have BC : Hid (WC.heap[w4.heap.size]? = some (.cells ([false, false, false, false, false, false, false, false, false].map Value.bool).toArray 115 (0, 0))) := Lib.hid (by rw [← hWC]; exact blk_new w4 _)
  have MC : Hid (More w4 WC) := Lib.hid (by rw [← hWC]; exact More.alloc _ _)
  have RC := Lib.hid (R4.out.on MC.out)
  have SC : Hid (SlI .u8 WC (.slice oa l.length cap) l) := Lib.hid (SL.out.keep RC.out.more)
  rw [hWC]
  have HR4 : Hid (w1.heap.size < w4.heap.size) := Lib.hid (lt_of_block R4.out.buf.blk)
  have HV4 : Hid (∀ k, v4.ownBlock = some k → k < w4.heap.size) := Lib.hid fun k hk => (R4.out.buf.row.own_ge hk).2
  have HCN : Hid (w.heap.size ≤ w4.heap.size) := Lib.hid R4.out.more.size
  have HCL : Hid (w4.heap.size < WC.heap.size) := Lib.hid (blk_lt BC.out)
  clear hWC R4 R3 RU MC M1
  generalize w1.heap.size = R at *
  generalize w4.heap.size = CB at *
  have hl40 : l.length ≤ 40 := h3
  go_wp2_with (first | (at_builtin; refine wpList_append_at _ rfl (.tmp 64) (.tmp 65) 28 rfl WC.heap.size 5 i0 (.int .u8 0) 1 Try.underlying28 hi hz0 hz1 hz2 rfl _ .u8 [] rfl (World.ownsRow_lit (e := 5) (size := 1) (base := WC.heap.size) WC #[] 0 (Nat.le_refl _) (by unfold maxLen; omega) rfl) _ l rfl (SC.out.keep (More.alloc _ _)) (by simp; omega) (by decide) (by simp) ?_; intro v5 w5 ho5 hg5 hx5; rw [List.nil_append] at ho5; have HO5 := Lib.hid ho5; have G5 : Hid (More WC w5) := Lib.hid ((More.alloc WC (.cells #[] 5)).grown hg5 (More.alloc WC (.cells #[] 5)).size (fun z hz => by cases hz; exact Nat.le_refl _)); clear ho5 hg5 hx5) | (at_builtin; refine wpList_append_at _ rfl (.tmp 66) (.tmp 67) 28 rfl WC.heap.size 5 i0 (.int .u8 0) 1 Try.underlying28 hi hz0 hz1 hz2 rfl _ .u8 l rfl (owns_more HO5.out (More.alloc _ _)) _ [0, 1, 2, 3, 4, 5, 6, 7] rfl (SlI.lit .u8 w5 [0, 1, 2, 3, 4, 5, 6, 7] 5 _ 8 _ rfl rfl rfl (by simp)) (by simp; omega) (by decide) (by have := G5.out.size; simp; omega) ?_; intro v6 w6 ho6 hg6 hx6; have HO6 := Lib.hid ho6; have G6 : Hid (More WC w6) := Lib.hid ((G5.out.al _).grown hg6 (G5.out.al _).size (fun z hz => owns_geJ HO5.out hz)); obtain ⟨o6, c6, rfl⟩ := owns_shape ho6; clear ho6 hg6 hx6))
  have hl2 : (l ++ [0, 1, 2, 3, 4, 5, 6, 7]).length = l.length + 8 := by simp
  obtain ⟨row, hrow⟩ : ∃ row, row = l ++ [0, 1, 2, 3, 4, 5, 6, 7] := ⟨_, rfl⟩
  have HRB : Hid (∀ t, 0 ≤ row.getD t 0 ∧ row.getD t 0 ≤ 255) := Lib.hid (fun t => by
    rw [hrow, List.getD_eq_getElem?_getD, List.getElem?_append]
    split
    · rw [← List.getD_eq_getElem?_getD]; exact HBY.out t
    · rw [← List.getD_eq_getElem?_getD]; exact Byt.of_all (l := [0, 1, 2, 3, 4, 5, 6, 7]) (by decide) _)
  have HRL : Hid (row.length = l.length + 8) := Lib.hid (by rw [hrow, hl2])
  have HRT : Hid (∀ t : Nat, t < 8 → row.getD (l.length + t) 0 = (t : Int)) := Lib.hid (fun t ht => by
    rw [hrow, List.getD_eq_getElem?_getD, List.getElem?_append_right (by omega), Nat.add_sub_cancel_left]
    have : t = 0 ∨ t = 1 ∨ t = 2 ∨ t = 3 ∨ t = 4 ∨ t = 5 ∨ t = 6 ∨ t = 7 := by omega
    rcases this with rfl | rfl | rfl | rfl | rfl | rfl | rfl | rfl <;> rfl)
  have HSL6 : Hid (SlI .u8 w6 (.slice o6 (l.length + 8) c6) row) := Lib.hid (by
    have := SlI.of_owns HO6.out (by rw [hl2]; omega)
    rw [hl2, ← hrow] at this
    exact this)
  have HOW : Hid (w6.ownsRow WC.heap.size 5 1 (.slice o6 (l.length + 8) c6) (l.length + 8) (row.map (Value.int .u8))) := Lib.hid (by
    have := HO6.out
    rw [hl2, ← hrow] at this
    exact this)
  have OR0 : Hid (Or12 w w6 R CB v4 (.slice o6 (l.length + 8) c6) row (jo2 room wait f) room f [false, false, false, false, false, false, false, false, false] 0) := Lib.hid ⟨RC.out.on G6.out, HJ2.out, blk_more G6.out BC.out, HCN.out, fun e => by have := HR4.out; omega, fun e => by have := HV4.out _ e; omega, HSL6.out, fun e => by have := owns_geJ HOW.out e; have := HR4.out; have := HCL.out; omega, fun e => by have := owns_geJ HOW.out e; have := HCL.out; omega, fun k hk e => by have := owns_geJ HOW.out hk; have := HV4.out _ e; have := HCL.out; omega, fun k hk => owns_lt HOW.out hk, fun t ht => by omega⟩
  clear G5 G6 HO5 HO6 HOW SC BC RC hl2 hrow HSL6 HCL HV4 HR4 HJ1 HJ2 HP HQ
  go_loopw [70] (fun ix wr => ∃ (j : Nat) (v' : Value) (b : Jb) (cs : List Bool), j ≤ l.length + 8 ∧ ix = .int .i64 j ∧ Or12 w wr R CB v' (.slice o6 (l.length + 8) c6) row b room f cs j) (fun ix _ => l.length + 8 - (intOf ix).toNat)
  case atStart => exact ⟨0, _, _, _, by omega, rfl, OR0.out⟩
  case round =>
    obtain ⟨j, v', b, cs, hj, rfl, hor⟩ := hrel
    have RR := Lib.hid hor
    have hCl := blk_lt hor.blk
    clear hor
    by_cases hlt : j < l.length + 8
    · obtain ⟨_, _, e0, _, hce, _⟩ := RR.out.sl
      obtain ⟨xb, off, rfl, hxb, hx⟩ := hce j (by rw [HRL.out]; exact hlt)
      injection e0 with ea eb ec
      subst ea
      clear eb ec
      have hk := HRB.out j
      have hlti : (j : Int) < (l.length : Int) + 8 := by omega
      clear hce
      obtain ⟨i, hi⟩ : ∃ i : Nat, (i : Int) = row.getD j 0 % room := ⟨(row.getD j 0 % room).toNat, by have := Int.emod_nonneg (row.getD j 0) (b := room) (by omega); omega⟩
      have hir : (i : Int) < room := by rw [hi]; exact Int.emod_lt_of_pos _ (by omega)
      have HII : Hid (i = (row.getD j 0 % room).toNat) := Lib.hid (by omega)
      have HIX := Lib.hid hi
      have HII2 : Hid (∃ u, u = row.getD j 0 ∧ i = (u % room).toNat) := Lib.hid ⟨_, rfl, HII.out⟩
      clear HII HIX
      obtain ⟨k, HKK⟩ : ∃ k, Hid (row.getD j 0 = k) := ⟨_, Lib.hid rfl⟩
      rw [HKK.out] at hk hx hi
      obtain ⟨hk0, hk1⟩ := hk
      have hi' : k % room = (i : Int) := hi.symm
      have hi9 : i < 9 := by omega
      have hi9' : (i : Int) < 9 := by omega
      have hc0 := RR.out.cell i hi9
      clear hi
      have HII : Hid (i = (row.getD j 0 % room).toNat) := Lib.hid (by obtain ⟨u, e1, e2⟩ := HII2.out; rw [← e1]; exact e2)
      have HNN : Hid (Num60 (f + 1 + (i : Int))) := Lib.hid ⟨by omega, by omega⟩
      cases hcb : cs.getD i false with
      | true =>
        rw [hcb] at hc0
        have HPU := Lib.hid (ord_came RR.out.ord hir hcb)
        have HSS := Lib.hid (set_same hcb)
        clear hcb
        go_wp2_with (go_at_call 55; ((with_reducible refine (Push_any b RR.out.ord.ok _ _ (f + 1 + (i : Int)) 0 i HNN.out _ RR.out.run.buf).mono ?_); rintro e w7 ⟨rfl, v7, s7⟩; rw [HPU.out] at s7 ⊢; have S7 := Lib.hid s7; have B7 := s7.away.blk RR.out.blk (fun x => x.elim RR.out.ne RR.out.nv); have f7 := blk_free B7 i; have q7 := (s7.away.cells CB i hCl (fun x => x.elim RR.out.ne RR.out.nv)).trans hc0; clear s7 B7))
        go_roundw
        case rel => exact ⟨j + 1, v7, b, cs, by omega, by go_num, RR.out.step S7.out cs RR.out.ord i HSS.out.symm HII.out hi9⟩
        case measure => simp [intOf]; omega
      | false =>
        rw [hcb] at hc0
        have HPU := Lib.hid (ord_new RR.out.ord hir hcb HNN.out)
        clear hcb
        go_wp2_with (go_at_call 55; ((with_reducible refine (Push_any b RR.out.ord.ok _ _ (f + 1 + (i : Int)) 0 i HNN.out _ RR.out.run.buf).mono ?_); rintro e w7 ⟨rfl, v7, s7⟩; rw [HPU.out.1] at s7 ⊢; have S7 := Lib.hid s7; have B7 := s7.away.blk RR.out.blk (fun x => x.elim RR.out.ne RR.out.nv); have f7 := blk_free B7 i; have q7 := (s7.away.cells CB i hCl (fun x => x.elim RR.out.ne RR.out.nv)).trans hc0; clear s7 B7))
        go_roundw
        case rel => exact ⟨j + 1, v7, _, cs.set i true, by omega, by go_num, RR.out.step S7.out (cs.set i true) HPU.out.2 i rfl HII.out hi9⟩
        case measure => simp [intOf]; omega
    · obtain rfl : j = l.length + 8 := by omega
      have HO : Hid (Out12 b room f 0) := Lib.hid (Out12.start RR.out.ord fun t ht => by
        have := RR.out.came (l.length + t) (by omega)
        rw [HRT.out t (by omega), Int.emod_eq_of_lt (by omega) ht] at this
        exact this)
      have HRU := Lib.hid RR.out.run
      clear RR hCl
      go_wp2_with fail
      go_loopw [94] (fun ix wr => ∃ (i : Nat) (v' : Value) (b : Jb), (i : Int) ≤ room ∧ ix = .int .i64 i ∧ Run12 w wr R v' b ∧ Out12 b room f i) (fun ix _ => 8 - (intOf ix).toNat)
      case atStart => exact ⟨0, _, _, by omega, rfl, HRU.out, HO.out⟩
      case round =>
        clear HO HRU
        obtain ⟨i, v2, c, hir, rfl, hru, ho⟩ := hrel
        have RS := Lib.hid hru
        have OS := Lib.hid ho
        clear hru ho
        by_cases hlt2 : (i : Int) < room
        · have HPP := Lib.hid (out_pop OS.out hlt2)
          have HNN : Hid (Num60 (f + 1 + (i : Int))) := Lib.hid ⟨by omega, by omega⟩
          go_wp2_with (first | (go_at_call 57; ((with_reducible refine (Pop_any c OS.out.ok _ _ 0 HZ.out _ RS.out.buf).mono ?_); rintro e w7 ⟨rfl, v7, s7⟩; rw [HPP.out.1] at s7 ⊢; have R7 := Lib.hid (RS.out.step HPP.out.2.1.ok s7); clear s7)) | (go_at_call 55; ((with_reducible refine (Push_any (leastJ c) HPP.out.2.1.ok _ _ (f + 1 + (i : Int)) 0 0 HNN.out _ R7.out.buf).mono ?_); rintro e w8 ⟨rfl, v8, s8⟩; rw [HPP.out.2.2] at s8 ⊢; have R8 := Lib.hid (R7.out.step HPP.out.2.1.ok s8); clear s8)))
          go_roundw
          case rel => first | exact ⟨i + 1, v8, leastJ c, by omega, by go_num, R8.out, HPP.out.2.1⟩ | ((repeat apply Exists.intro); exact ⟨⟨i + 1, v8, leastJ c, by omega, by go_num, R8.out, HPP.out.2.1⟩, rfl⟩)
          case measure => simp [intOf]; omega
        · have HE : Hid (c.holds.length = 0) := Lib.hid (by rw [out_end OS.out hlt2]; rfl)
          go_wp2_with (go_at_call 58; ((with_reducible refine (Len_any c _ _ _ RS.out.buf).mono ?_); rintro e w9 ⟨rfl, rfl⟩; rw [HE.out]))
          go_ret
          exact ⟨rfl, RS.out.more⟩
theorem JitterOrders_law (room wait f : Int) (v : Value) (l : List Int) (w : World) (_hr : -9223372036854775808 ≤ room ∧ room ≤ 9223372036854775807) (_hw : -9223372036854775808 ≤ wait ∧ wait ≤ 9223372036854775807) (_hf : -9223372036854775808 ≤ f ∧ f ≤ 9223372036854775807) (sl : SlI .u8 w v l) (hb : Byt l) :
    Calls Try.prog 12 #[.int .i64 room, .int .i64 wait, .int .i64 f, v] w fun e w' => e = .returned (.bool true) ∧ More w w' := by
  by_cases h : newOK room wait
  · by_cases h1 : 0 ≤ f
    · by_cases h2 : f ≤ 1152921504606846956
      · by_cases h3 : l.length ≤ 40
        · exact JO_main room wait f l v w sl hb h h1 h2 h3
        · obtain ⟨oa, cap, rfl, _⟩ := sl
          exact JO_guard room wait f oa l.length cap w h (Or.inr (Or.inr ⟨h1, h2, by omega⟩))
      · obtain ⟨oa, cap, rfl, _⟩ := sl
        exact JO_guard room wait f oa l.length cap w h (Or.inr (Or.inl ⟨h1, by omega⟩))
    · obtain ⟨oa, cap, rfl, _⟩ := sl
      exact JO_guard room wait f oa l.length cap w h (Or.inl (by omega))
  · exact JO_no room wait f v w h
end Go.Proofs.Ytlnikmcimmnbmaa
