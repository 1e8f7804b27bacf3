/- The law WireBack, walked. -/
import Derived.Test.YtaobhpaabnljpaaWireI
namespace Go.Proofs.Ytaobhpaabnljpaa
open Go.RowKit
set_option maxRecDepth 100000

theorem rd_step {w : World} {R : Nat} {vb : Value} {t : Thing} {r : List Int} (h : ReaderAt w R (thB t ++ r) 0) (hb : SlI .u8 w vb t.2.2.1) (hn : 0 ≤ t.2.1 ∧ t.2.1 ≤ 4294967295) :
    Calls Try.prog 39 #[.pointer (some ⟨R, 0, none⟩), .agg #[.int .i64 t.1, .int .u32 t.2.1, vb, .int .i64 t.2.2.2.1]] w fun e' w' => e' = .returned (.bool true) ∧ ReaderAt w' R r 0 ∧ Away (fun b => b = R) w w' := by
  refine (read03 t h hb hn).mono ?_
  rw [rdOK_app t r hn, rdN_len, tkL_app, tkE_app]
  exact fun _ _ h => h
theorem readerAt_eq {w : World} {R : Nat} {l l' : List Int} {e : Int} (h : ReaderAt w R l e) (x : l = l') : ReaderAt w R l' e := by rw [← x]; exact h
set_option maxHeartbeats 2000000 in
theorem WireBack_law (vl : Value) (l : List Thing) (cut : Int) (w : World) (sl : SlP 4 RThing w vl l) (hcut : -9223372036854775808 ≤ cut ∧ cut ≤ 9223372036854775807) :
    Calls Try.prog 7 #[vl, .int .i64 cut] w fun e w' => e = .returned (.bool true) ∧ More w w' := by
  obtain ⟨i0, hi, hz0, hz1, hz2⟩ := info_parts (P := Try.prog) (e := 5) (z := .int .u8 0) (size := 1) (bytes := 1) (by kernel_rfl)
  have SL := Lib.hid sl
  obtain ⟨oa, cap, rfl, hl63, hel⟩ := things sl
  clear sl
  cases hl : lrg l with
  | true =>
    go_enter Try.func7, Try.ntmps7
    go_wp2_with first | (go_at_call 24; refine (awake03 _).mono ?_; rintro e w1 ⟨rfl, hm1⟩) | (go_at_call 25; refine (large03 _ l _ (SL.out.keep keepsThing hm1)).mono ?_; rintro e w2 ⟨rfl, hm2⟩; rw [hl])
    go_ret
    exact ⟨rfl, hm1.trans hm2⟩
  | false =>
    obtain ⟨hl60, hl40⟩ := lrg_no hl
    have HL := Lib.hid hl
    clear hl
    have hBy : Byt (flB l) := flB_byt l fun i hi => by obtain ⟨_, _, _, _, _, ht⟩ := hel i hi; exact ht.byt
    have hBl := flB_len l hl40
    have hB9 : (flB l).length ≤ 2400 := by omega
    go_enter Try.func7, Try.ntmps7
    go_wp2_with first | (go_at_call 24; refine (awake03 _).mono ?_; rintro e w1 ⟨rfl, hm1⟩) | (go_at_call 25; refine (large03 _ l _ (SL.out.keep keepsThing hm1)).mono ?_; rintro e w2 ⟨rfl, hm2⟩; rw [HL.out])
    have hM := hm1.trans hm2
    have hW0 := writer_new w2
    have hM0 := hM.al (.cells #[.slice none 0 0] 60)
    have hWw := hM.size
    generalize hWe : w2.heap.size = W at *
    go_loopw [24] (fun i wr => ∃ j : Nat, j ≤ l.length ∧ i = .int .i64 j ∧ (∃ v, WriterAt wr W v (flB (l.take j)) ∧ (flB (l.take j)).length ≤ 40 * j) ∧ More w wr) (fun i _ => l.length - (intOf i).toNat)
    case atStart => exact ⟨0, by omega, rfl, ⟨_, hW0, by simp [flB]⟩, hM0⟩
    case round =>
      obtain ⟨j, hj, rfl, ⟨v, hr, hal⟩, hmr⟩ := hrel
      by_cases hlt : j < l.length
      · obtain ⟨b, off, vb, rfl, hb, ht⟩ := hel j hlt
        obtain ⟨c0, c1, c2, c3, hsb, hbyt, hn32⟩ := ht.more hmr hb
        have H40 := hl40 j hlt
        have hjl : (j : Int) < (l.length : Int) := by omega
        have hbw : b < wr.heap.size := Nat.lt_of_lt_of_le hb hmr.size
        have HE := Lib.hid (flB_succ l j hlt)
        have hBl := thB_len (l.getD j thing0) H40
        generalize hacc : flB (l.take j) = acc at *
        have HS := Lib.hid hsb
        have HN := Lib.hid hn32
        clear hel ht hl40 hacc hn32 hbyt hBy
        obtain ⟨ob, capb, rfl, _⟩ := hsb
        generalize l.getD j thing0 = t at *
        go_wp2_with (go_at_call 35; refine (write03 t (hr.more (More.alloc wr _)) (HS.out.keep (More.alloc wr _)) HN.out H40 (by omega)).mono ?_; rintro e w6 ⟨rfl, hw6⟩)
        go_roundw
        case rel =>
          have m6 := hw6.to_more (hr.more (More.alloc wr _)) (hmr.al _) hWw
          obtain ⟨⟨v6, h6, _⟩, _⟩ := hw6
          exact ⟨j + 1, by omega, by go_num, ⟨v6, by rw [HE.out]; exact h6, by rw [HE.out, List.length_append]; omega⟩, m6⟩
        case measure => simp [intOf]; omega
      · obtain rfl : j = l.length := by omega
        rw [List.take_length] at hr
        have HBy := Lib.hid hBy
        have hzz : Byt (flB l ++ [0]) := byt_app hBy (Byt.of_all (by decide))
        have HZ := Lib.hid hzz
        clear hal hBl hzz hBy
        go_wp2_with first | (go_at_call 38; refine (WBytes_any hr (by omega)).mono ?_; rintro e w8 ⟨v8, rfl, ho8, m8⟩; have s8 := Lib.hid (SlI.of_owns ho8 (by omega)); have M8 := hmr.trans m8; obtain ⟨ob8, nb8, cb8, rfl, hnb8, hcb8⟩ := slice_of_row ho8; have N8 := Lib.hid (And.intro hnb8 hcb8); clear ho8 hnb8 hcb8) | (go_at_call 26; ((with_reducible refine (RdNew_any _ _ w8 s8.out HBy.out (by omega)).mono ?_); rintro e w9 ⟨R1, rfl, hR1, r9, m9⟩; have hown := World.ownsRow_lit (e := 5) (size := 1) (base := w9.heap.size) w9 #[] 0 (Nat.le_refl _) (by unfold maxLen; omega) rfl; have s9 := (s8.out.keep m9).keep (More.alloc w9 (.cells #[] 5)); have hR1l := Lib.hid (blk_lt r9.blk.choose_spec.1))) | (at_builtin; refine wpList_append_sl _ rfl (.tmp 36) (.tmp 37) 42 rfl w9.heap.size 5 i0 (.int .u8 0) 1 Try.underlying42 hi hz0 hz1 hz2 rfl _ .u8 [] rfl hown _ (flB l) rfl s9 (by simp; omega) (by decide) (More.alloc w9 _).size ?_; intro v10 w10 ho10 hg10; have m10 : More w9 w10 := (More.alloc w9 (.cells #[] 5)).grown hg10 (More.alloc w9 _).size (by intro q h; cases h; exact Nat.le_refl _); have ho10 := owns_more ho10 (More.alloc w10 (.cells #[.int .u8 0] 5)); have M10 := (m10.al (.cells #[.int .u8 0] 5)); clear hg10) | (at_builtin; refine wpList_append_sl _ rfl (.tmp 38) (.tmp 39) 42 rfl w9.heap.size 5 i0 (.int .u8 0) 1 Try.underlying42 hi hz0 hz1 hz2 rfl _ .u8 ([] ++ flB l) rfl ho10 _ [0] rfl (SlI.lit .u8 w10 [0] 5 _ 1 _ (by simp) rfl rfl (by simp)) (by simp; omega) (by decide) M10.size ?_; intro v11 w11 ho11 hg11; have m11 : More w9 w11 := Below.grown M10 hg11 M10.size (by intro q h; exact owns_ge ho10 h); have s11 : Hid (SlI .u8 w11 v11 (flB l ++ [0])) := Lib.hid (SlI.of_owns ho11 (by simp; omega)); clear ho11 hg11) | (go_at_call 26; ((with_reducible refine (RdNew_any v11 _ w11 s11.out HZ.out (by simp; omega)).mono ?_); rintro e w12 ⟨R2, rfl, hR2, r12, m12⟩))
        have hM12 := (m9.trans m11).trans m12
        have hr1 := r9.more (m11.trans m12)
        have hR12 : ¬ R1 = R2 := by have := hR1l.out; have := m11.size; omega
        have hR21 : ¬ R2 = R1 := fun e => hR12 e.symm
        have hR2b : w8.heap.size ≤ R2 := by have := m11.size; have := m9.size; omega
        have hN1 : ∀ k, k = R1 → k ≠ R2 := by rintro k rfl; exact hR12
        go_loopw [44] (fun i wr => ∃ j : Nat, j ≤ l.length ∧ i = .int .i64 j ∧ ReaderAt wr R1 (flB (l.drop j)) 0 ∧ ReaderAt wr R2 (flB (l.drop j) ++ [0]) 0 ∧ More w8 wr) (fun i _ => l.length - (intOf i).toNat)
        case atStart => exact ⟨0, by omega, rfl, hr1, r12, hM12⟩
        case round =>
          obtain ⟨j, hj, rfl, ha, hb9, hmr⟩ := hrel
          by_cases hlt : j < l.length
          · obtain ⟨b, off, vb, rfl, hb, ht⟩ := hel j hlt
            obtain ⟨c0, c1, c2, c3, hsb, hbyt, hn32⟩ := ht.more (M8.trans hmr) hb
            have hjl : (j : Int) < (l.length : Int) := by omega
            have hbw : b < wr.heap.size := Nat.lt_of_lt_of_le hb (M8.trans hmr).size
            rw [flB_drop l j hlt] at ha hb9
            rw [List.append_assoc] at hb9
            generalize hrest : flB (l.drop (j + 1)) = rest at *
            have HR := Lib.hid hrest
            have HS := Lib.hid hsb
            have HN := Lib.hid hn32
            have hne1 : ¬ wr.heap.size = R1 := by obtain ⟨v, h1, _⟩ := ha.blk; have := blk_lt h1; omega
            have hne2 : ¬ wr.heap.size = R2 := by obtain ⟨v, h1, _⟩ := hb9.blk; have := blk_lt h1; omega
            clear hel ht hl40 hrest hn32 hbyt
            obtain ⟨ob, capb, rfl, _⟩ := hsb
            generalize l.getD j thing0 = t at *
            go_wp2_with first | (go_at_call 39; ((with_reducible refine (rd_step (t := t) (r := rest) (ha.more (More.alloc wr _)) (HS.out.keep (More.alloc wr _)) HN.out).mono ?_); rintro e w6 ⟨rfl, h6, a6⟩; have k6 := a6.blk (blk_new wr _) hne1; have c60 := blk_cell k6 0 (v := .int .i64 t.1) rfl; have c61 := blk_cell k6 1 (v := .int .u32 t.2.1) rfl; have c62 := blk_cell k6 2 (v := .slice ob t.2.2.1.length capb) rfl; have c63 := blk_cell k6 3 (v := .int .i64 t.2.2.2.1) rfl; have g6 := (hb9.more (More.alloc wr _)).away a6 hR21 (by rintro b rfl; exact reader_cell (ha.more (More.alloc wr _))); have s6 := Lib.hid ((HS.out.keep (More.alloc wr _)).away a6 (by rintro b rfl; exact reader_cell (ha.more (More.alloc wr _)))); have m6 := rd_more a6 (hmr.al _) hR1; clear k6)) | (go_at_call 39; ((with_reducible refine (rd_step (t := t) (r := rest ++ [0]) g6 s6.out HN.out).mono ?_); rintro e w7 ⟨rfl, h7, a7⟩; have g7 := h6.away a7 hR12 (by rintro b rfl; exact reader_cell g6); have m7 := rd_more a7 m6 hR2b))
            go_roundw
            case rel => exact ⟨j + 1, by omega, by go_num, by rw [HR.out]; exact g7, by rw [HR.out]; exact h7, m7⟩
            case measure => simp [intOf]; omega
          · obtain rfl : j = l.length := by omega
            rw [flB_end] at ha hb9
            have hl1 : 0 < (([] : List Int) ++ [0]).length := by simp
            have hways : cut < 0 ∨ (¬ cut < 0 ∧ (nb8 : Int) ≤ cut) ∨ (¬ cut < 0 ∧ ¬ (nb8 : Int) ≤ cut) := by omega
            obtain ⟨hcut1, hcut2⟩ := hcut
            rcases hways with hc | ⟨hc, hc2⟩ | ⟨hc, hc2⟩
            · go_wp2_with first | (go_at_call 34; ((with_reducible refine (RdEnd_ok ha).mono ?_); rintro e w13 ⟨rfl, rfl⟩)) | (go_at_call 33; ((with_reducible refine (RdLeft_any ha).mono ?_); rintro e w13 ⟨rfl, rfl⟩)) | (go_at_call 34; ((with_reducible refine (RdEnd_long hb9 hl1).mono ?_); rintro e w13 ⟨rfl, rfl⟩)) | (go_at_call 33; ((with_reducible refine (RdLeft_any hb9).mono ?_); rintro e w13 ⟨rfl, rfl⟩))
              go_ret
              exact ⟨rfl, M8.trans hmr⟩
            · go_wp2_with first | (go_at_call 34; ((with_reducible refine (RdEnd_ok ha).mono ?_); rintro e w13 ⟨rfl, rfl⟩)) | (go_at_call 33; ((with_reducible refine (RdLeft_any ha).mono ?_); rintro e w13 ⟨rfl, rfl⟩)) | (go_at_call 34; ((with_reducible refine (RdEnd_long hb9 hl1).mono ?_); rintro e w13 ⟨rfl, rfl⟩)) | (go_at_call 33; ((with_reducible refine (RdLeft_any hb9).mono ?_); rintro e w13 ⟨rfl, rfl⟩))
              go_ret
              exact ⟨rfl, M8.trans hmr⟩
            · obtain ⟨c, rfl⟩ : ∃ c : Nat, cut = c := ⟨cut.toNat, by omega⟩
              have hc3 : (c : Int) < (nb8 : Int) := by omega
              have hc4 : (c : Int) ≤ (cb8 : Int) := by have := N8.out; omega
              have hc5 : (nb8 : Int) ≤ (cb8 : Int) := by have := N8.out; omega
              have hc6 : (0 : Int) ≤ (c : Int) := by omega
              have hc7 : c < (flB l).length := by have := N8.out; omega
              have S9 := Lib.hid ((s8.out.keep hmr).take c (by omega))
              have B9 := Lib.hid (HBy.out.take c)
              go_wp2_with first | (go_at_call 34; ((with_reducible refine (RdEnd_ok ha).mono ?_); rintro e w13 ⟨rfl, rfl⟩)) | (go_at_call 33; ((with_reducible refine (RdLeft_any ha).mono ?_); rintro e w13 ⟨rfl, rfl⟩)) | (go_at_call 34; ((with_reducible refine (RdEnd_long hb9 hl1).mono ?_); rintro e w13 ⟨rfl, rfl⟩)) | (go_at_call 33; ((with_reducible refine (RdLeft_any hb9).mono ?_); rintro e w13 ⟨rfl, rfl⟩)) | (go_at_call 26; refine (RdNew_any _ _ _ S9.out B9.out (by simp; omega)).mono ?_; rintro e w14 ⟨R3, rfl, hR3, r14, m14⟩)
              have hR3w : w.heap.size ≤ R3 := Nat.le_trans (M8.trans hmr).size hR3
              have hM14 := (M8.trans hmr).trans m14
              go_loopw [91] (fun i wz => ∃ j : Nat, j ≤ l.length ∧ i = .int .i64 j ∧ (∃ L E, ReaderAt wz R3 L E ∧ CutAt L (flB (l.drop j)) E) ∧ More w wz) (fun i _ => l.length - (intOf i).toNat)
              case atStart => exact ⟨0, by omega, rfl, ⟨_, _, r14, Or.inl ⟨rfl, c, rfl, hc7⟩⟩, hM14⟩
              case round =>
                obtain ⟨j, hj, rfl, ⟨L, E, ha, hk⟩, hmz⟩ := hrel
                by_cases hlt : j < l.length
                · obtain ⟨b, off, vb, rfl, hb, ht⟩ := hel j hlt
                  obtain ⟨c0, c1, c2, c3, hsb, hbyt, hn32⟩ := ht.more hmz hb
                  have hjl : (j : Int) < (l.length : Int) := by omega
                  have hbw : b < wr.heap.size := Nat.lt_of_lt_of_le hb hmz.size
                  rw [flB_drop l j hlt] at hk
                  have HK := Lib.hid hk.step
                  have HS := Lib.hid hsb
                  have HN := Lib.hid hn32
                  clear hel ht hl40 hn32 hbyt hk
                  obtain ⟨ob, capb, rfl, _⟩ := hsb
                  generalize l.getD j thing0 = t at *
                  go_wp2_with (go_at_call 39; refine (read03 t (ha.more (More.alloc wr _)) (HS.out.keep (More.alloc wr _)) HN.out).mono ?_; rintro e w6 ⟨rfl, h6, a6⟩)
                  go_roundw
                  case rel => exact ⟨j + 1, by omega, by go_num, ⟨_, _, h6, HK.out⟩, rd_more a6 (hmz.al _) hR3w⟩
                  case measure => simp [intOf]; omega
                · obtain rfl : j = l.length := by omega
                  rw [flB_end] at hk
                  obtain ⟨rfl, rfl⟩ := hk.done
                  clear hk
                  go_wp2_with first | (go_at_call 34; ((with_reducible refine (RdEnd_shut ha (by decide)).mono ?_); rintro e w13 ⟨rfl, rfl⟩)) | (go_at_call 33; ((with_reducible refine (RdLeft_any ha).mono ?_); rintro e w13 ⟨rfl, rfl⟩))
                  go_ret
                  exact ⟨rfl, hmz⟩
end Go.Proofs.Ytaobhpaabnljpaa
