/- The things of layer 3's laws: written, and read. -/
import Derived.Test.YtaobhpaabnljpaaWireE
namespace Go.Proofs.Ytaobhpaabnljpaa
open Go.RowKit
set_option maxRecDepth 100000

/-- The bytes of a thing. -/
def thB (t : Thing) : List Int := if 1 ≤ t.1 ∧ t.1 ≤ 4 then bysA t.2.1 t.1 else if t.1 = 5 then t.2.2.1 else []
theorem bysA_1 (n : Int) : bysA (n % 256) 1 = bysA n 1 := by
  have h : by8 (n % 256) 0 = by8 n 0 := by unfold by8; simp
  show [by8 (n % 256) 0] = [by8 n 0]
  rw [h]
theorem bysA_2 (n : Int) : bysA (n % 65536) 2 = bysA n 2 := by
  have h : by8 (n % 65536) 0 = by8 n 0 := by unfold by8; simp
  have h1 : by8 (n % 65536) 1 = by8 n 1 := by unfold by8; simp; omega
  show [by8 (n % 65536) 1, by8 (n % 65536) 0] = [by8 n 1, by8 n 0]
  rw [h, h1]
theorem bysA_len (n s : Int) (hs : 0 ≤ s ∧ s ≤ 8) : ((bysA n s).length : Int) = s := by
  rw [bysA_pos n s hs, bys_length]; omega
theorem thB_len (t : Thing) (h : t.2.2.1.length ≤ 40) : (thB t).length ≤ 40 := by
  unfold thB; split
  · rename_i h; have := bysA_len t.2.1 t.1 (by omega); omega
  · split
    · exact h
    · simp
theorem write03 {w : World} {W : Nat} {v vb : Value} {l : List Int} (t : Thing) (h : WriterAt w W v l) (hb : SlI .u8 w vb t.2.2.1) (hn : 0 ≤ t.2.1 ∧ t.2.1 ≤ 4294967295) (h40 : t.2.2.1.length ≤ 40) (hl : l.length ≤ 100000) :
    Calls Try.prog 35 #[.pointer (some ⟨W, 0, none⟩), .agg #[.int .i64 t.1, .int .u32 t.2.1, vb, .int .i64 t.2.2.2.1]] w fun e w' => e = .returned (.tuple #[]) ∧ Wrote w w' W v (l ++ thB t) := by
  obtain ⟨k, n, b, en, ⟨⟩⟩ := t
  simp only at *
  have m0 := More.alloc w (.cells #[.int .i64 k, .int .u32 n, vb, .int .i64 en] 50)
  have h0 := h.more m0
  have b0 := hb.keep m0
  have n0 : 0 ≤ n % 256 ∧ n % 256 ≤ 255 := by omega
  have n1 : 0 ≤ n % 65536 ∧ n % 65536 ≤ 65535 := by omega
  have HN := Lib.hid hn
  obtain ⟨_, _⟩ := hn
  by_cases h1 : k = 1
  · subst h1
    have ht : thB (1, n, b, en, ()) = bysA (n % 256) 1 := by rw [bysA_1]; rfl
    have HT := Lib.hid ht
    clear ht
    go_enter Try.func35, Try.ntmps35
    go_wp2_with (go_at_call 78; refine (WByte_any h0 (n % 256) n0 (by omega)).mono ?_; rintro e w1 ⟨rfl, hw1⟩)
    refine bodyPost_end (v := .tuple #[]) ?rr rfl ?_
    case rr => (simp [results, Try.results35, go_sem])
    exact ⟨rfl, by rw [HT.out]; exact hw1.after m0⟩
  by_cases h2 : k = 2
  · subst h2
    have ht : thB (2, n, b, en, ()) = bysA (n % 65536) 2 := by rw [bysA_2]; rfl
    have HT := Lib.hid ht
    clear ht
    go_enter Try.func35, Try.ntmps35
    go_wp2_with (go_at_call 79; refine (WShort_any h0 (n % 65536) n1 (by omega)).mono ?_; rintro e w1 ⟨rfl, hw1⟩)
    refine bodyPost_end (v := .tuple #[]) ?rr rfl ?_
    case rr => (simp [results, Try.results35, go_sem])
    exact ⟨rfl, by rw [HT.out]; exact hw1.after m0⟩
  by_cases h3 : k = 3
  · subst h3
    go_enter Try.func35, Try.ntmps35
    go_wp2_with (go_at_call 71; refine (WThree_any h0 n HN.out (by omega)).mono ?_; rintro e w1 ⟨rfl, hw1⟩)
    refine bodyPost_end (v := .tuple #[]) ?rr rfl ?_
    case rr => (simp [results, Try.results35, go_sem])
    exact ⟨rfl, hw1.after m0⟩
  by_cases h4 : k = 4
  · subst h4
    go_enter Try.func35, Try.ntmps35
    go_wp2_with (go_at_call 80; refine (WNum_any h0 n HN.out (by omega)).mono ?_; rintro e w1 ⟨rfl, hw1⟩)
    refine bodyPost_end (v := .tuple #[]) ?rr rfl ?_
    case rr => (simp [results, Try.results35, go_sem])
    exact ⟨rfl, hw1.after m0⟩
  by_cases h5 : k = 5
  · subst h5
    have HB := Lib.hid b0
    obtain ⟨ob, capb, rfl, _⟩ := b0
    go_enter Try.func35, Try.ntmps35
    go_wp2_with (go_at_call 72; refine (wrote_raw h0 _ _ HB.out (by omega)).mono ?_; rintro e w1 ⟨rfl, hw1⟩)
    refine bodyPost_end (v := .tuple #[]) ?rr rfl ?_
    case rr => (simp [results, Try.results35, go_sem])
    exact ⟨rfl, hw1.after m0⟩
  have ht : thB (k, n, b, en, ()) = [] := by unfold thB; rw [if_neg (by simp only; omega), if_neg h5]
  have HT := Lib.hid ht
  clear ht
  go_enter Try.func35, Try.ntmps35
  go_wp2
  refine bodyPost_end (v := .tuple #[]) ?rr rfl ?_
  case rr => (simp [results, Try.results35, go_sem])
  exact ⟨rfl, by rw [HT.out, List.append_nil]; exact ⟨⟨v, h0, Or.inl rfl⟩, Away.of_more m0⟩⟩

/-- How many bytes reading a thing takes; whether it was that one. -/
def rdN (t : Thing) : Int := if 1 ≤ t.1 ∧ t.1 ≤ 4 then t.1 else if t.1 = 5 then t.2.2.1.length else 0
def rdOK (l : List Int) (t : Thing) : Bool :=
  if 1 ≤ t.1 ∧ t.1 ≤ 4 then num (tkB l t.1) == t.2.1 % two (8 * t.1) else if t.1 = 5 then decide (tkB l t.2.2.1.length = t.2.2.1) else true
theorem tkL_0 (l : List Int) : tkL l 0 = l := by unfold tkL; simp
theorem tkE_0 (l : List Int) (e : Int) : tkE l 0 e = e := by unfold tkE; rw [if_neg (by omega)]
theorem and24 (n x : Int) (h0 : 0 ≤ n) (h1 : n ≤ 4294967295) : Ending.returned (.bool (x == bits .and .u32 n 16777215)) = Ending.returned (.bool (x == n % 16777216)) := by
  have e : bits .and .u32 n 16777215 = n % 16777216 := by
    obtain ⟨m, rfl⟩ := Int.eq_ofNat_of_zero_le h0
    have h2 : m &&& 16777215 = m % 16777216 := Nat.and_two_pow_sub_one_eq_mod m 24
    have e0 : bits .and .u32 (m : Int) 16777215 = IntKind.u32.wrap (((m % 4294967296 &&& 16777215) : Nat) : Int) := rfl
    have e1 : m % 4294967296 = m := by omega
    rw [e0, e1, h2]
    show (((m % 16777216 : Nat) : Int)) % 4294967296 = _
    omega
  rw [e]
theorem read03 {w : World} {R : Nat} {vb : Value} {l : List Int} {e : Int} (t : Thing) (h : ReaderAt w R l e) (hb : SlI .u8 w vb t.2.2.1) (hn : 0 ≤ t.2.1 ∧ t.2.1 ≤ 4294967295) :
    Calls Try.prog 39 #[.pointer (some ⟨R, 0, none⟩), .agg #[.int .i64 t.1, .int .u32 t.2.1, vb, .int .i64 t.2.2.2.1]] w fun e' w' => e' = .returned (.bool (rdOK l t)) ∧ ReaderAt w' R (tkL l (rdN t)) (tkE l (rdN t) e) ∧ Away (fun b => b = R) w w' := by
  obtain ⟨k, n, b, en, ⟨⟩⟩ := t
  simp only at *
  have m0 := More.alloc w (.cells #[.int .i64 k, .int .u32 n, vb, .int .i64 en] 50)
  have h0 := h.more m0
  have b0 := hb.keep m0
  have hne : ¬ w.heap.size = R := by obtain ⟨v, h1, _⟩ := h.blk; have := blk_lt h1; omega
  obtain ⟨n0, n1⟩ := hn
  have a0 : Away (fun b => b = R) w _ := Away.of_more m0
  have L1 : ∀ x : LaterS (fun b => b = R) (w.alloc (.cells #[.int .i64 k, .int .u32 n, vb, .int .i64 en] 50)), x.w'.cell? ⟨w.heap.size, 1, none⟩ = some (.int .u32 n) := fun x => blk_cell (x.h.blk (blk_new _ _) hne) 1 rfl
  by_cases h1 : k = 1
  · subst h1
    have hr : rdOK l (1, n, b, en, ()) = (num (tkB l 1) == n % 256) := rfl
    have HR := Lib.hid hr
    clear hr
    go_enter Try.func39, Try.ntmps39
    go_wp2_with fail
    refine wp_region_numS (fun b => b = R) (w.alloc (.cells #[.int .i64 1, .int .u32 n, vb, .int .i64 en] 50)) 7 [(0, false), (2, false), (3, false), (4, false), (1, true), (5, false), (6, false)] (by kernel_rfl) (by kernel_rfl) ?_
    iterate 4 (refine num_quiet rfl rfl (laterS_mk (by repeat (first | exact Away.refl _ _ | assumption | refine Away.drewN ?_ _ | refine Away.set ?_ (by first | rfl | exact Or.inl rfl | exact Or.inr rfl) _))) ?_; intro K hK; go_big_quiet_op; go_big_quiet_on)
    (refine num_next rfl rfl ?_; intro K hK; unfold loud; go_simp)
    refine (RdByte_any (h0.more (More.drewN _ 1))).mono ?_
    rintro e' w6 ⟨rfl, h6, a6⟩
    refine ⟨_, rfl, laterS_mk (((Away.refl _ _).drewN _).trans a6), hK _ _ ?_⟩
    clear hK K
    iterate 2 (refine num_quiet rfl rfl (laterS_mk (((Away.refl _ _).drewN _).trans a6)) ?_; intro K hK; go_big_quiet_op; go_big_quiet_on)
    refine num_nil ?_
    go_wp2
    all_goals
      go_ret
      exact ⟨by rw [HR.out]; rfl, h6, a0.trans (((Away.refl _ _).drewN _).trans a6)⟩
  by_cases h2 : k = 2
  · subst h2
    have hr : rdOK l (2, n, b, en, ()) = (num (tkB l 2) == n % 65536) := rfl
    have HR := Lib.hid hr
    clear hr
    go_enter Try.func39, Try.ntmps39
    go_wp2_with fail
    refine wp_region_numS (fun b => b = R) (w.alloc (.cells #[.int .i64 2, .int .u32 n, vb, .int .i64 en] 50)) 7 [(0, false), (2, false), (3, false), (4, false), (1, true), (5, false), (6, false)] (by kernel_rfl) (by kernel_rfl) ?_
    iterate 4 (refine num_quiet rfl rfl (laterS_mk (by repeat (first | exact Away.refl _ _ | assumption | refine Away.drewN ?_ _ | refine Away.set ?_ (by first | rfl | exact Or.inl rfl | exact Or.inr rfl) _))) ?_; intro K hK; go_big_quiet_op; go_big_quiet_on)
    (refine num_next rfl rfl ?_; intro K hK; unfold loud; go_simp)
    refine (RdShort_any (h0.more (More.drewN _ 1))).mono ?_
    rintro e' w6 ⟨rfl, h6, a6⟩
    refine ⟨_, rfl, laterS_mk (((Away.refl _ _).drewN _).trans a6), hK _ _ ?_⟩
    clear hK K
    iterate 2 (refine num_quiet rfl rfl (laterS_mk (((Away.refl _ _).drewN _).trans a6)) ?_; intro K hK; go_big_quiet_op; go_big_quiet_on)
    refine num_nil ?_
    go_wp2
    all_goals
      go_ret
      exact ⟨by rw [HR.out]; rfl, h6, a0.trans (((Away.refl _ _).drewN _).trans a6)⟩
  by_cases h3 : k = 3
  · subst h3
    have hr : rdOK l (3, n, b, en, ()) = (num (tkB l 3) == n % 16777216) := rfl
    have HR := Lib.hid hr
    clear hr
    go_enter Try.func39, Try.ntmps39
    go_wp2_with fail
    refine wp_region_numS (fun b => b = R) (w.alloc (.cells #[.int .i64 3, .int .u32 n, vb, .int .i64 en] 50)) 7 [(0, false), (2, false), (3, false), (4, false), (1, true), (5, false), (6, false)] (by kernel_rfl) (by kernel_rfl) ?_
    iterate 4 (refine num_quiet rfl rfl (laterS_mk (by repeat (first | exact Away.refl _ _ | assumption | refine Away.drewN ?_ _ | refine Away.set ?_ (by first | rfl | exact Or.inl rfl | exact Or.inr rfl) _))) ?_; intro K hK; go_big_quiet_op; go_big_quiet_on)
    (refine num_next rfl rfl ?_; intro K hK; unfold loud; go_simp)
    refine (RdThree_any (h0.more (More.drewN _ 1))).mono ?_
    rintro e' w6 ⟨rfl, h6, a6⟩
    refine ⟨_, rfl, laterS_mk (((Away.refl _ _).drewN _).trans a6), hK _ _ ?_⟩
    clear hK K
    iterate 2 (refine num_quiet rfl rfl (laterS_mk (((Away.refl _ _).drewN _).trans a6)) ?_; intro K hK; go_big_quiet_op; go_big_quiet_on)
    refine num_nil ?_
    go_wp2
    all_goals
      go_ret
      exact ⟨by rw [HR.out]; exact and24 n _ n0 n1, h6, a0.trans (((Away.refl _ _).drewN _).trans a6)⟩
  by_cases h4 : k = 4
  · subst h4
    have hr : rdOK l (4, n, b, en, ()) = (num (tkB l 4) == n) := by show (num (tkB l 4) == n % 4294967296) = _; rw [Int.emod_eq_of_lt n0 (by omega)]
    have HR := Lib.hid hr
    clear hr
    go_enter Try.func39, Try.ntmps39
    go_wp2_with fail
    refine wp_region_numS (fun b => b = R) (w.alloc (.cells #[.int .i64 4, .int .u32 n, vb, .int .i64 en] 50)) 6 [(0, false), (2, false), (3, false), (1, true), (4, false), (5, false)] (by kernel_rfl) (by kernel_rfl) ?_
    iterate 3 (refine num_quiet rfl rfl (laterS_mk (by repeat (first | exact Away.refl _ _ | assumption | refine Away.drewN ?_ _ | refine Away.set ?_ (by first | rfl | exact Or.inl rfl | exact Or.inr rfl) _))) ?_; intro K hK; go_big_quiet_op; go_big_quiet_on)
    (refine num_next rfl rfl ?_; intro K hK; unfold loud; go_simp)
    refine (RdNum_any (h0.more (More.drewN _ 1))).mono ?_
    rintro e' w6 ⟨rfl, h6, a6⟩
    refine ⟨_, rfl, laterS_mk (((Away.refl _ _).drewN _).trans a6), hK _ _ ?_⟩
    clear hK K
    iterate 2 (refine num_quiet rfl rfl (laterS_mk (((Away.refl _ _).drewN _).trans a6)) ?_; intro K hK; go_big_quiet_op; go_big_quiet_on)
    refine num_nil ?_
    go_wp2
    all_goals
      go_ret
      exact ⟨by rw [HR.out]; rfl, h6, a0.trans (((Away.refl _ _).drewN _).trans a6)⟩
  by_cases h5 : k = 5
  · subst h5
    have hr : rdOK l (5, n, b, en, ()) = decide (tkB l b.length = b) := rfl
    have HR := Lib.hid hr
    have HB := Lib.hid b0
    obtain ⟨ob, capb, rfl, _⟩ := b0
    have L2 : ∀ x : LaterS (fun b => b = R) (w.alloc (.cells #[.int .i64 5, .int .u32 n, .slice ob b.length capb, .int .i64 en] 50)), x.w'.cell? ⟨w.heap.size, 2, none⟩ = some (.slice ob b.length capb) := fun x => blk_cell (x.h.blk (blk_new _ _) hne) 2 rfl
    clear hr
    go_enter Try.func39, Try.ntmps39
    go_wp2_with fail
    refine wp_region_numS (fun b => b = R) (w.alloc (.cells #[.int .i64 5, .int .u32 n, .slice ob b.length capb, .int .i64 en] 50)) 9 [(0, false), (1, false), (2, false), (3, false), (5, false), (6, false), (4, true), (7, true), (8, false)] (by kernel_rfl) (by kernel_rfl) ?_
    iterate 6 (refine num_quiet rfl rfl (laterS_mk (by repeat (first | exact Away.refl _ _ | assumption | refine Away.drewN ?_ _ | refine Away.set ?_ (by first | rfl | exact Or.inl rfl | exact Or.inr rfl) _))) ?_; intro K hK; go_big_quiet_op; go_big_quiet_on)
    (refine num_next rfl rfl ?_; intro K hK; unfold loud; go_simp)
    refine (RdRaw_any b.length (h0.more (More.drewN _ 1))).mono ?_
    rintro e' w6 ⟨v6, rfl, ho6, h6, a6⟩
    refine ⟨_, rfl, laterS_mk (((Away.refl _ _).drewN _).trans a6), hK _ _ ?_⟩
    clear hK K
    have hlen := tkB_len l b.length (by omega)
    have s6 := Lib.hid (SlI.of_owns ho6 (by omega))
    have q6 := Lib.hid (((HB.out.keep (More.drewN _ 1)).away a6 (by rintro b rfl; exact reader_cell (h0.more (More.drewN _ 1)))))
    clear ho6 hlen
    (refine num_next rfl rfl ?_; intro K hK; unfold loud; go_simp)
    refine (Same_any _ _ _ _ _ s6.out q6.out).mono ?_
    rintro e w7 ⟨rfl, k7, rfl⟩
    refine ⟨_, rfl, laterS_mk ((((Away.refl _ _).drewN _).trans a6).drewN _), hK _ _ ?_⟩
    clear hK K
    iterate 1 (refine num_quiet rfl rfl (laterS_mk ((((Away.refl _ _).drewN _).trans a6).drewN _)) ?_; intro K hK; go_big_quiet_op; go_big_quiet_on)
    refine num_nil ?_
    go_wp2
    all_goals
      go_ret
      exact ⟨by rw [HR.out]; rfl, h6.more (More.drewN _ _), a0.trans ((((Away.refl _ _).drewN _).trans a6).drewN _)⟩
  have hr : rdOK l (k, n, b, en, ()) = true := by unfold rdOK; rw [if_neg (by simp only; omega), if_neg h5]
  have h9 : rdN (k, n, b, en, ()) = 0 := by unfold rdN; rw [if_neg (by simp only; omega), if_neg h5]
  have HR := Lib.hid hr
  have H9 := Lib.hid h9
  clear hr h9
  go_enter Try.func39, Try.ntmps39
  go_wp2
  go_ret
  exact ⟨by rw [HR.out]; rfl, by rw [H9.out, tkL_0, tkE_0]; exact h0, a0⟩
end Go.Proofs.Ytaobhpaabnljpaa
