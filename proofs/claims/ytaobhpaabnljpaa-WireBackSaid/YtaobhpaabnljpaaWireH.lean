/- The law WireWrites, walked. -/
import Derived.Test.YtaobhpaabnljpaaWireG
namespace Go.Proofs.Ytaobhpaabnljpaa
open Go.RowKit
set_option maxRecDepth 100000

/-- The bytes of things. -/
def flB (l : List Thing) : List Int := l.flatMap thB
theorem flB_succ (l : List Thing) (j : Nat) (h : j < l.length) : flB (l.take (j + 1)) = flB (l.take j) ++ thB (l.getD j thing0) := by
  unfold flB
  rw [List.take_add_one, List.flatMap_append, List.getElem?_eq_getElem h]
  simp [h]
theorem owns_awayS {S : Nat → Prop} {w w' : World} {base e size n : Nat} {v : Value} {xs : List Value} (h : w.ownsRow base e size v n xs) (m : Away S w w') (hs : ∀ b, v.ownBlock = some b → ¬ S b) : w'.ownsRow base e size v n xs := by
  obtain ⟨h1, h2⟩ := h
  refine ⟨h1, ?_⟩
  rcases h2 with h | ⟨g, cap, cur, e1, hb, hg, rest⟩
  · exact Or.inl h
  · exact Or.inr ⟨g, cap, cur, e1, hb, m.blk hg (hs g (by rw [e1]; rfl)), rest⟩
theorem blk_grown {w w' : World} {u : Value} {b : Nat} {o : Obj} (g : w.grownBy w' u.ownBlock) (hne : u.ownBlock ≠ some b) (h : w.heap[b]? = some o) : w'.heap[b]? = some o := by
  rw [g.block b (blk_lt h) (fun e => hne e.symm)]; exact h
/-- A writer, and a row of bytes beside it. -/
structure WrRow (w0 w : World) (W : Nat) (v u : Value) (l m : List Int) : Prop where
  wr : WriterAt w W v l
  row : w.ownsRow (W + 1) 5 1 u m.length (m.map (Value.int .u8))
  apart : ∀ b, v.ownBlock = some b → u.ownBlock ≠ some b
  more : More w0 w
  base : w0.heap.size ≤ W
theorem WrRow.on {w0 w w' : World} {W : Nat} {v u : Value} {l m : List Int} (h : WrRow w0 w W v u l m) (x : More w w') : WrRow w0 w' W v u l m :=
  ⟨h.wr.more x, owns_more h.row x, h.apart, h.more.trans x, h.base⟩
theorem WrRow.wrote {w0 w w' : World} {W : Nat} {v u : Value} {l l' m : List Int} (h : WrRow w0 w W v u l m) (x : Wrote w w' W v l') : ∃ v', WrRow w0 w' W v' u l' m := by
  have hm := x.to_more h.wr h.more h.base
  obtain ⟨⟨v', h1, h2⟩, a⟩ := x
  refine ⟨v', h1, owns_awayS h.row a ?_, ?_, hm, h.base⟩
  · rintro b hb (rfl | e)
    · have := owns_ge h.row hb; omega
    · exact h.apart b e hb
  · intro b hb hu
    rcases h2 with h2 | ⟨g, h2, h3⟩
    · exact h.apart b (by rw [← h2]; exact hb) hu
    · have := owns_lt h.row hu
      rw [hb] at h2
      obtain rfl : b = g := by injection h2
      omega
theorem WrRow.grown {w0 w w' : World} {W : Nat} {v u u' : Value} {l m m' : List Int} (h : WrRow w0 w W v u l m) (ho : w'.ownsRow (W + 1) 5 1 u' m'.length (m'.map (Value.int .u8))) (hg : w.grownBy w' u.ownBlock) (hb : u'.ownBlock = u.ownBlock ∨ u'.ownBlock = some w.heap.size) : WrRow w0 w' W v u' l m' := by
  have hW : u.ownBlock ≠ some W := fun e => by have := owns_ge h.row e; omega
  refine ⟨⟨blk_grown hg hW h.wr.blk, owns_grown h.wr.row hg h.apart⟩, ho, ?_, ⟨hg.os.trans h.more.os, hg.tape.trans h.more.tape, hg.output.trans h.more.output, Nat.le_trans h.more.size hg.size, fun k hk => ?_⟩, h.base⟩
  · intro b hv hu
    rcases hb with hb | hb
    · exact h.apart b hv (by rw [← hb]; exact hu)
    · rw [hu] at hb
      have := owns_lt h.wr.row hv
      obtain rfl : b = w.heap.size := by injection hb
      omega
  · rw [hg.block k (Nat.lt_of_lt_of_le hk h.more.size) (fun e => by have := owns_ge h.row e.symm; have := h.base; omega)]
    exact h.more.block k hk
set_option maxHeartbeats 2000000 in
theorem WireWrites_law (vl : Value) (l : List Thing) (w : World) (sl : SlP 4 RThing w vl l) :
    Calls Try.prog 6 #[vl] w fun e w' => e = .returned (.bool true) ∧ More w w' := by
  obtain ⟨i0, hi, hz0, hz1, hz2⟩ := info_parts (P := Try.prog) (e := 5) (z := .int .u8 0) (size := 1) (bytes := 1) (by kernel_rfl)
  have SL := Lib.hid sl
  obtain ⟨oa, cap, rfl, hl63, hel⟩ := things sl
  clear sl
  cases hl : lrg l with
  | true =>
    go_enter Try.func6, Try.ntmps6
    go_wp2_with first | (go_at_call 24; refine (awake03 _).mono ?_; rintro e w1 ⟨rfl, hm1⟩) | (go_at_call 25; refine (large03 _ l _ (SL.out.keep keepsThing hm1)).mono ?_; rintro e w2 ⟨rfl, hm2⟩; rw [hl])
    go_ret
    exact ⟨rfl, hm1.trans hm2⟩
  | false =>
    obtain ⟨hl60, hl40⟩ := lrg_no hl
    have HL := Lib.hid hl
    clear hl
    go_enter Try.func6, Try.ntmps6
    go_wp2_with first | (go_at_call 24; refine (awake03 _).mono ?_; rintro e w1 ⟨rfl, hm1⟩) | (go_at_call 25; refine (large03 _ l _ (SL.out.keep keepsThing hm1)).mono ?_; rintro e w2 ⟨rfl, hm2⟩; rw [HL.out])
    have hM := hm1.trans hm2
    have hW0 : WriterAt ((w2.alloc (.cells #[.slice none 0 0] 60)).alloc (.cells #[] 5)) w2.heap.size (.slice none 0 0) [] := (writer_new w2).more (More.alloc _ _)
    have hU0 : ((w2.alloc (.cells #[.slice none 0 0] 60)).alloc (.cells #[] 5)).ownsRow (w2.heap.size + 1) 5 1 (.slice (some ⟨w2.heap.size + 1, 0, none⟩) 0 0) 0 [] := by
      have := World.ownsRow_lit (e := 5) (size := 1) (base := w2.heap.size + 1) (w2.alloc (.cells #[.slice none 0 0] 60)) #[] 0 (by simp) (by unfold maxLen; omega) rfl
      simpa using this
    have hR0 : WrRow w ((w2.alloc (.cells #[.slice none 0 0] 60)).alloc (.cells #[] 5)) w2.heap.size (.slice none 0 0) (.slice (some ⟨w2.heap.size + 1, 0, none⟩) 0 0) [] [] :=
      ⟨hW0, hU0, (fun b h => by cases h), (hM.al _).al _, hM.size⟩
    clear hW0 hU0
    generalize hWe : w2.heap.size = W at *
    go_loopw [4, 16] (fun u i wr => ∃ j : Nat, j ≤ l.length ∧ i = .int .i64 j ∧ (∃ ou nu cu v acc, acc = flB (l.take j) ∧ u = .slice ou nu cu ∧ WrRow w wr W v (.slice ou nu cu) acc acc ∧ acc.length ≤ 40 * j)) (fun _ i _ => l.length - (intOf i).toNat)
    case atStart => exact ⟨0, by omega, rfl, ⟨_, _, _, _, [], rfl, rfl, hR0, by simp⟩⟩
    case round =>
      obtain ⟨j, hj, rfl, ⟨ou, nu, cu, v, acc, hacc, rfl, hr, hal⟩⟩ := hrel
      by_cases hlt : j < l.length
      · obtain ⟨b, off, vb, rfl, hb, ht⟩ := hel j hlt
        have ht6 := Lib.hid ht
        obtain ⟨c0, c1, c2, c3, hsb, hbyt, hn32⟩ := ht.more hr.more hb
        have H40 := hl40 j hlt
        have hjl : (j : Int) < (l.length : Int) := by omega
        have hbw : b < wr.heap.size := Nat.lt_of_lt_of_le hb hr.more.size
        have hE : acc ++ thB (l.getD j thing0) = flB (l.take (j + 1)) := by rw [flB_succ l j hlt, hacc]
        have HE := Lib.hid hE
        have hBl := thB_len (l.getD j thing0) H40
        have HB0 := Lib.hid (ht.sl)
        have HR := Lib.hid hr
        have hcopy : ∀ b, (Value.slice ou nu cu).ownBlock = some b → b < wr.heap.size := fun b h => owns_lt hr.row h
        have hWr := blk_lt hr.wr.blk
        have hvr : ∀ b, v.ownBlock = some b → b < wr.heap.size := fun b h => owns_lt hr.wr.row h
        have HC := Lib.hid (And.intro hcopy hvr)
        clear hE hel hacc hr ht hcopy hvr hl40
        generalize l.getD j thing0 = t at *
        obtain ⟨k, n, bs, en, ⟨⟩⟩ := t
        simp only at c0 c1 c2 c3 hsb hn32 H40
        have hBl : (thB (k, n, bs, en, ())).length ≤ 40 := hBl
        have hn9 : U64 n := by unfold U64; omega
        have HN := Lib.hid hn32
        obtain ⟨_, _⟩ := hn32
        have HS := Lib.hid hsb
        obtain ⟨ob, capb, rfl, _⟩ := hsb
        have hns : ¬ WrS W v wr.heap.size := by
          rintro (e | e)
          · omega
          · have := HC.out.2 _ e; omega
        have hcb : (bysA n k).length ≤ 40 ∨ ¬ (1 ≤ k ∧ k ≤ 4) := by
          by_cases h : 1 ≤ k ∧ k ≤ 4
          · have := bysA_len n k (by omega); omega
          · exact Or.inr h
        have hLL : (acc ++ thB (k, n, bs, en, ())).length ≤ 40 * (j + 1) := by rw [List.length_append]; omega
        have hLL2 : (acc ++ thB (k, n, bs, en, ())).length ≤ 100000 := by omega
        by_cases h14 : 1 ≤ k ∧ k ≤ 4
        · have hbl : (bysA n k).length ≤ 40 := by omega
          have hth : thB (k, n, bs, en, ()) = bysA n k := by unfold thB; rw [if_pos h14]
          have HT := Lib.hid hth
          have hk64 : I64 k := by unfold I64; omega
          obtain ⟨k1, k4⟩ := h14
          have h5 : ¬ k = 5 := by omega
          clear hth hcb
          go_wp2_with first | (go_at_call 35; refine (write03 (k, n, bs, en, ()) (HR.out.wr.more (More.alloc wr _)) (HS.out.keep (More.alloc wr _)) HN.out H40 (by omega)).mono ?_; rintro e w6 ⟨rfl, hw6⟩; obtain ⟨v6, r6⟩ := (HR.out.on (More.alloc wr _)).wrote hw6; have k6 := hw6.2.blk (blk_new wr _) hns; have c60 := blk_cell k6 0 (v := .int .i64 k) rfl; have c61 := blk_cell k6 1 (v := .int .u32 n) rfl; have c62 := blk_cell k6 2 (v := .slice ob bs.length capb) rfl; have s6 : SlI .u8 w6 _ bs := HB0.out.keep r6.more; have K6 := Lib.hid k6; have R6 := Lib.hid r6; clear r6 k6 hw6) | (go_at_call 36; refine (RBytes_all n k hn9 hk64 _).mono ?_; rintro e w7 ⟨v7, rfl, s7, m7⟩; have r7 := R6.out.on m7; have k7 := blk_more m7 K6.out; have K7 := Lib.hid k7) | (at_builtin; refine wpList_append_at _ rfl (.tmp 31) (.tmp 37) 42 rfl (W + 1) 5 i0 (.int .u8 0) 1 Try.underlying42 hi hz0 hz1 hz2 rfl _ .u8 acc rfl r7.row _ (bysA n k) rfl s7 (by omega) (by decide) (blk_lt r7.wr.blk) ?_; intro u8 w8 ho hg hb; have r8 := Lib.hid (WrRow.grown r7 ho hg hb); have k8 := blk_grown hg (fun e => by have := HC.out.1 _ e; omega) k7; have c80 := blk_cell k8 0 (v := .int .i64 k) rfl; obtain ⟨ou8, nu8, cu8, rfl, hn8, _⟩ := slice_of_row ho; clear ho hg hb hn8 k8; have r9 : Hid (WrRow w w8 W v6 (.slice ou8 nu8 cu8) (acc ++ thB (k, n, bs, en, ())) (acc ++ thB (k, n, bs, en, ()))) := Lib.hid (by have := r8.out; rw [← HT.out] at this; exact this)) | (go_at_call 38; refine (WBytes_any r9.out.wr (by omega)).mono ?_; rintro e w10 ⟨v10, rfl, ho10, m10⟩; have s10 := SlI.of_owns ho10 (by omega); have O9 := (SlI.of_owns r9.out.row (by omega)).keep m10; clear ho10) | (go_at_call 37; refine (Same_any _ _ _ _ _ s10 O9).mono ?_; rintro e w11 ⟨rfl, k11, rfl⟩)
          go_roundw
          case rel => exact ⟨j + 1, by omega, by go_num, ⟨_, _, _, _, _, HE.out, rfl, (r9.out.on m10).on (More.drewN _ _), hLL⟩⟩
          case measure => simp [intOf]; omega
        by_cases h5 : k = 5
        · subst h5
          have hth : thB (5, n, bs, en, ()) = bs := rfl
          have HT := Lib.hid hth
          clear hth hcb
          go_wp2_with first | (go_at_call 35; refine (write03 (5, n, bs, en, ()) (HR.out.wr.more (More.alloc wr _)) (HS.out.keep (More.alloc wr _)) HN.out H40 (by omega)).mono ?_; rintro e w6 ⟨rfl, hw6⟩; obtain ⟨v6, r6⟩ := (HR.out.on (More.alloc wr _)).wrote hw6; have k6 := hw6.2.blk (blk_new wr _) hns; have c60 := blk_cell k6 0 (v := .int .i64 5) rfl; have c61 := blk_cell k6 1 (v := .int .u32 n) rfl; have c62 := blk_cell k6 2 (v := .slice ob bs.length capb) rfl; have s6 : SlI .u8 w6 _ bs := HB0.out.keep r6.more; have K6 := Lib.hid k6; have R6 := Lib.hid r6; clear r6 k6 hw6) | (at_builtin; refine wpList_append_at _ rfl (.tmp 42) (.tmp 44) 42 rfl (W + 1) 5 i0 (.int .u8 0) 1 Try.underlying42 hi hz0 hz1 hz2 rfl _ .u8 acc rfl R6.out.row _ bs rfl s6 (by omega) (by decide) (blk_lt R6.out.wr.blk) ?_; intro u8 w8 ho hg hb; have r8 := Lib.hid (WrRow.grown R6.out ho hg hb); have k8 := blk_grown hg (fun e => by have := HC.out.1 _ e; omega) K6.out; have c80 := blk_cell k8 0 (v := .int .i64 5) rfl; obtain ⟨ou8, nu8, cu8, rfl, hn8, _⟩ := slice_of_row ho; clear ho hg hb hn8 k8; have r9 : Hid (WrRow w w8 W v6 (.slice ou8 nu8 cu8) (acc ++ thB (5, n, bs, en, ())) (acc ++ thB (5, n, bs, en, ()))) := Lib.hid (by have := r8.out; rw [← HT.out] at this; exact this)) | (go_at_call 38; refine (WBytes_any r9.out.wr (by omega)).mono ?_; rintro e w10 ⟨v10, rfl, ho10, m10⟩; have s10 := SlI.of_owns ho10 (by omega); have O9 := (SlI.of_owns r9.out.row (by omega)).keep m10; clear ho10) | (go_at_call 37; refine (Same_any _ _ _ _ _ s10 O9).mono ?_; rintro e w11 ⟨rfl, k11, rfl⟩)
          go_roundw
          case rel => exact ⟨j + 1, by omega, by go_num, ⟨_, _, _, _, _, HE.out, rfl, (r9.out.on m10).on (More.drewN _ _), hLL⟩⟩
          case measure => simp [intOf]; omega
        have hth : thB (k, n, bs, en, ()) = [] := by unfold thB; rw [if_neg (by simp only; exact h14), if_neg h5]
        have HT := Lib.hid hth
        clear hth hcb
        have hways : k < 1 ∨ (1 ≤ k ∧ 4 < k) := by omega
        rcases hways with h1 | ⟨h1, h2⟩
        all_goals
          go_wp2_with first | (go_at_call 35; refine (write03 (k, n, bs, en, ()) (HR.out.wr.more (More.alloc wr _)) (HS.out.keep (More.alloc wr _)) HN.out H40 (by omega)).mono ?_; rintro e w6 ⟨rfl, hw6⟩; obtain ⟨v6, r6⟩ := (HR.out.on (More.alloc wr _)).wrote hw6; have k6 := hw6.2.blk (blk_new wr _) hns; have c60 := blk_cell k6 0 (v := .int .i64 k) rfl; have c61 := blk_cell k6 1 (v := .int .u32 n) rfl; have c62 := blk_cell k6 2 (v := .slice ob bs.length capb) rfl; have s6 : SlI .u8 w6 _ bs := HB0.out.keep r6.more; have K6 := Lib.hid k6; have R6 := Lib.hid r6; have r9 : Hid (WrRow w w6 W v6 (.slice ou nu cu) (acc ++ thB (k, n, bs, en, ())) (acc ++ thB (k, n, bs, en, ()))) := Lib.hid (by have := r6; rw [HT.out, List.append_nil] at this ⊢; exact this); clear r6 k6 hw6) | (go_at_call 38; refine (WBytes_any r9.out.wr (by omega)).mono ?_; rintro e w10 ⟨v10, rfl, ho10, m10⟩; have s10 := SlI.of_owns ho10 (by omega); have O9 := (SlI.of_owns r9.out.row (by omega)).keep m10; clear ho10) | (go_at_call 37; refine (Same_any _ _ _ _ _ s10 O9).mono ?_; rintro e w11 ⟨rfl, k11, rfl⟩)
          go_roundw
          case rel => exact ⟨j + 1, by omega, by go_num, ⟨_, _, _, _, _, HE.out, rfl, (r9.out.on m10).on (More.drewN _ _), hLL⟩⟩
          case measure => simp [intOf]; omega
      · obtain rfl : j = l.length := by omega
        clear hel
        go_wp2
        go_ret
        exact ⟨rfl, hr.more⟩
end Go.Proofs.Ytaobhpaabnljpaa
