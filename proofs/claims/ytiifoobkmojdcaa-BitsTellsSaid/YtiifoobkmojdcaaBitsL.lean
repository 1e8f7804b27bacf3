/- The walks of the laws of layer 1. -/
import Derived.Test.YtiifoobkmojdcaaBitsC
import Derived.Test.YtiifoobkmojdcaaPlainB
namespace Go.Proofs.Ytiifoobkmojdcaa
open Go.RowKit
set_option maxRecDepth 100000

set_option maxHeartbeats 1000000 in
theorem awake01 (w : World) :
    Calls Try.prog 24 #[] w fun e w' => e = .returned (.bool true) ∧ More w w' := by
  have f1 : (fld 180 2 4 == 13) = true := by decide
  have f2 : (lay 180 2 4 2 == 136) = true := by decide +kernel
  have f3 : (sgd 255 8 == -1) = true := by decide
  have f4 : (num [1, 2] == 258) = true := by decide
  go_enter Try.func24, Try.ntmps24
  go_wp2_with (first
    | (go_at_call 25; refine (Field_any _ _ _ (by decide) (by decide) (by decide) _).mono ?_; rintro e w1 ⟨rfl, k1, rfl⟩)
    | (go_at_call 27; refine (Lay_any _ _ _ _ (by decide) (by decide) (by decide) (by decide) _).mono ?_; rintro e w1 ⟨rfl, k2, rfl⟩)
    | (go_at_call 29; refine (Signed_any _ _ (by decide) (by decide) _).mono ?_; rintro e w1 ⟨rfl, rfl⟩)
    | (go_at_call 31; refine (Number_any [1, 2] _ _ (SlI.lit .u8 _ [1, 2] 5 _ _ _ rfl rfl rfl (by decide)) (Byt.of_all (by decide)) ).mono ?_; rintro e w1 ⟨rfl, rfl⟩)
    | (go_at_call 34; refine (Bytes_yes _ 3 (by decide) (by decide) _).mono ?_; rintro e w3 ⟨v3, rfl, hs3, hm3⟩)
    | (go_at_call 33; refine (Same_any (bys 258 3) [0, 1, 2] _ _ _ (hs3.keep (More.alloc _ _)) (SlI.lit .u8 _ [0, 1, 2] 5 _ _ _ rfl rfl rfl (by decide))).mono ?_; rintro e w1 ⟨rfl, k3, rfl⟩))
  go_ret
  exact ⟨ret_bool (by decide), ((((More.drewN w (k1 + k2)).al _).trans hm3).al _).dr _⟩
set_option maxHeartbeats 1000000 in
theorem BitsSigned_law (n s : Int) (w : World) (hn : U64 n) (hs : I64 s) :
    Calls Try.prog 9 #[.int .u64 n, .int .i64 s] w fun e w' => e = .returned (.bool true) ∧ More w w' := by
  obtain ⟨s1, s2⟩ := hs
  by_cases h1 : 1 ≤ s
  · by_cases h2 : s ≤ 64
    · have r := sgd_range n s
      have b := sgd_bd n s h1 h2
      have HN := Lib.hid hn
      have f1 : (fld (IntKind.u64.wrap (sgd n s)) 0 s == fld n 0 s) = true := by rw [IntKind.wrap_u64, fld_sgd n s h1 h2]; simp
      have f2 : (sgd (IntKind.u64.wrap (sgd n s)) s == sgd n s) = true := by rw [IntKind.wrap_u64, sgd_again n s h1 h2]; simp
      have f3 : (sgd (IntKind.u64.wrap (sgd n s)) 64 == sgd n s) = true := by rw [IntKind.wrap_u64, sgd_64 _ r]; simp
      have HM : Hid (U64 (IntKind.u64.wrap (sgd n s))) := by
        rw [IntKind.wrap_u64]
        exact ⟨Int.emod_nonneg _ (by decide), by have := Int.emod_lt_of_pos (sgd n s) (b := 18446744073709551616) (by decide); omega⟩
      by_cases h64 : s < 64
      · have hw : wrap64 (2 ^ (s.toNat - 1)) = two (s - 1) := by
          have hle : two (s - 1) ≤ two 62 := two_le (by omega)
          have : two 62 = 4611686018427387904 := by decide
          have hp := two_pos (s - 1)
          rw [show ((2 : Int) ^ (s.toNat - 1)) = two (s - 1) from by unfold two; rw [show (s - 1).toNat = s.toNat - 1 from by omega]; simp]
          exact IntWalk.wrap64_in _ (by omega)
        have hle : two (s - 1) ≤ 4611686018427387904 := by
          have : two 62 = 4611686018427387904 := by decide
          rw [← this]; exact two_le (by omega)
        have hp := two_pos (s - 1)
        go_enter Try.func9, Try.ntmps9
        go_wp2_with (first | (go_at_call 24; refine (awake01 _).mono ?_; rintro e w1 ⟨rfl, hm1⟩) | (go_at_call 29; refine (Signed_any _ _ (by first | with_reducible exact HN.out | with_reducible exact HM.out) (by unfold I64; omega) _).mono ?_; rintro e w2 ⟨rfl, rfl⟩) | (go_at_call 25; refine (Field_any _ _ _ (by first | with_reducible exact HN.out | with_reducible exact HM.out) (by decide) (by unfold I64; omega) _).mono ?_; rintro e w3 ⟨rfl, k3, rfl⟩))
        go_ret
        exact ⟨rfl, hm1.dr _⟩
      · obtain rfl : s = 64 := by omega
        go_enter Try.func9, Try.ntmps9
        go_wp2_with (first | (go_at_call 24; refine (awake01 _).mono ?_; rintro e w1 ⟨rfl, hm1⟩) | (go_at_call 29; refine (Signed_any _ _ (by first | with_reducible exact HN.out | with_reducible exact HM.out) (by unfold I64; omega) _).mono ?_; rintro e w2 ⟨rfl, rfl⟩) | (go_at_call 25; refine (Field_any _ _ _ (by first | with_reducible exact HN.out | with_reducible exact HM.out) (by decide) (by unfold I64; omega) _).mono ?_; rintro e w3 ⟨rfl, k3, rfl⟩))
        go_ret
        exact ⟨rfl, hm1.dr _⟩
    · go_enter Try.func9, Try.ntmps9
      go_wp2_with (go_at_call 24; refine (awake01 _).mono ?_; rintro e w1 ⟨rfl, hm1⟩)
      go_ret
      exact ⟨rfl, hm1⟩
  · go_enter Try.func9, Try.ntmps9
    go_wp2_with (go_at_call 24; refine (awake01 _).mono ?_; rintro e w1 ⟨rfl, hm1⟩)
    go_ret
    exact ⟨rfl, hm1⟩

set_option maxHeartbeats 2000000 in
theorem BitsLays_law (n v a s o : Int) (w : World) (hn : U64 n) (hv : U64 v) (ha : I64 a) (hs : I64 s) (ho : I64 o) :
    Calls Try.prog 7 #[.int .u64 n, .int .u64 v, .int .i64 a, .int .i64 s, .int .i64 o] w fun e w' => e = .returned (.bool true) ∧ More w w' := by
  by_cases hm : May a s
  · have hmy := May_yes a s hm
    by_cases h1 : 0 ≤ o
    · by_cases h2 : o ≤ 63
      · have f1 : (fld (lay n a s v) a s != fld v 0 s) = false := by rw [lay_there n a s v hn hv hm]; simp
        have f2 : (lay (lay n a s v) a s (n / 2 ^ a.toNat) != n) = false := by
          rw [show ((2 : Int) ^ a.toNat) = two a from by unfold two; simp, lay_back n a s v hn hm]; simp
        have HD : Hid (U64 (n / 2 ^ a.toNat)) := by
          rw [show ((2 : Int) ^ a.toNat) = two a from by unfold two; simp]; exact div_U64 n a hn
        have HL := Lib.hid (lay_U64 n a s v hn)
        have HO := Lib.hid (lay_other n a s v o hn hm ⟨h1, h2⟩)
        obtain ⟨m1, m2, m3, m4⟩ := hm
        have HN := Lib.hid hn
        have HV := Lib.hid hv
        clear hn hv ha hs ho
        by_cases i1 : a ≤ o
        · by_cases i2 : o - a < s
          · clear HO
            go_enter Try.func7, Try.ntmps7
            go_wp2_with (first | (go_at_call 24; refine (awake01 _).mono ?_; rintro e w1 ⟨rfl, hm1⟩) | (go_at_call 36; refine (hmy _).mono ?_; rintro e w1 ⟨rfl, rfl⟩) | (go_at_call 27; refine (Lay_any _ _ _ _ (by first | with_reducible exact HN.out | with_reducible exact HL.out) (by first | with_reducible exact HV.out | with_reducible exact HD.out) (by unfold I64; omega) (by unfold I64; omega) _).mono ?_; rintro e w2 ⟨rfl, k2, rfl⟩) | (go_at_call 25; refine (Field_any _ _ _ (by first | with_reducible exact HL.out | with_reducible exact HN.out | with_reducible exact HV.out) (by unfold I64; omega) (by unfold I64; omega) _).mono ?_; rintro e w3 ⟨rfl, k3, rfl⟩))
            go_ret
            exact ⟨rfl, (hm1.dr _)⟩
          · have f3 : (fld (lay n a s v) o 1 == fld n o 1) = true := by rw [HO.out (by omega)]; simp
            clear HO
            go_enter Try.func7, Try.ntmps7
            go_wp2_with (first | (go_at_call 24; refine (awake01 _).mono ?_; rintro e w1 ⟨rfl, hm1⟩) | (go_at_call 36; refine (hmy _).mono ?_; rintro e w1 ⟨rfl, rfl⟩) | (go_at_call 27; refine (Lay_any _ _ _ _ (by first | with_reducible exact HN.out | with_reducible exact HL.out) (by first | with_reducible exact HV.out | with_reducible exact HD.out) (by unfold I64; omega) (by unfold I64; omega) _).mono ?_; rintro e w2 ⟨rfl, k2, rfl⟩) | (go_at_call 25; refine (Field_any _ _ _ (by first | with_reducible exact HL.out | with_reducible exact HN.out | with_reducible exact HV.out) (by unfold I64; omega) (by unfold I64; omega) _).mono ?_; rintro e w3 ⟨rfl, k3, rfl⟩))
            go_ret
            exact ⟨rfl, (hm1.dr _)⟩
        · have f3 : (fld (lay n a s v) o 1 == fld n o 1) = true := by rw [HO.out (by omega)]; simp
          clear HO
          go_enter Try.func7, Try.ntmps7
          go_wp2_with (first | (go_at_call 24; refine (awake01 _).mono ?_; rintro e w1 ⟨rfl, hm1⟩) | (go_at_call 36; refine (hmy _).mono ?_; rintro e w1 ⟨rfl, rfl⟩) | (go_at_call 27; refine (Lay_any _ _ _ _ (by first | with_reducible exact HN.out | with_reducible exact HL.out) (by first | with_reducible exact HV.out | with_reducible exact HD.out) (by unfold I64; omega) (by unfold I64; omega) _).mono ?_; rintro e w2 ⟨rfl, k2, rfl⟩) | (go_at_call 25; refine (Field_any _ _ _ (by first | with_reducible exact HL.out | with_reducible exact HN.out | with_reducible exact HV.out) (by unfold I64; omega) (by unfold I64; omega) _).mono ?_; rintro e w3 ⟨rfl, k3, rfl⟩))
          go_ret
          exact ⟨rfl, (hm1.dr _)⟩
      · go_enter Try.func7, Try.ntmps7
        go_wp2_with (first | (go_at_call 24; refine (awake01 _).mono ?_; rintro e w1 ⟨rfl, hm1⟩) | (go_at_call 36; refine (hmy _).mono ?_; rintro e w1 ⟨rfl, rfl⟩))
        go_ret
        exact ⟨rfl, hm1⟩
    · go_enter Try.func7, Try.ntmps7
      go_wp2_with (first | (go_at_call 24; refine (awake01 _).mono ?_; rintro e w1 ⟨rfl, hm1⟩) | (go_at_call 36; refine (hmy _).mono ?_; rintro e w1 ⟨rfl, rfl⟩))
      go_ret
      exact ⟨rfl, hm1⟩
  · have hmy := May_no a s ha hs hm
    go_enter Try.func7, Try.ntmps7
    go_wp2_with (first | (go_at_call 24; refine (awake01 _).mono ?_; rintro e w1 ⟨rfl, hm1⟩) | (go_at_call 36; refine (hmy _).mono ?_; rintro e w1 ⟨rfl, rfl⟩))
    go_ret
    exact ⟨rfl, hm1⟩

set_option maxHeartbeats 2000000 in
theorem BitsBack_law (n s : Int) (v : Value) (l : List Int) (w : World) (hn : U64 n) (hs : I64 s) (hv : SlI .u8 w v l) (hb : Byt l) :
    Calls Try.prog 8 #[.int .u64 n, .int .i64 s, v] w fun e w' => e = .returned (.bool true) ∧ More w w' := by
  have HS := Lib.hid hv
  obtain ⟨oa, cap, rfl, hl, _, _, _, _⟩ := hv
  by_cases h1 : 0 ≤ s
  · by_cases h2 : s ≤ 8
    · by_cases h3 : l.length ≤ 8
      · obtain ⟨S, rfl⟩ := Int.eq_ofNat_of_zero_le h1
        have HN := Lib.hid hn
        have HB := Lib.hid hb
        have h2' : S ≤ 8 := by omega
        have HBN := Lib.hid (bys_num l hb h3)
        have HU := Lib.hid (num_bd l hb)
        have f1 : (num (bys n S) == fld n 0 (8 * S)) = true := by rw [num_bys n S hn h2']; simp
        clear hn hb
        go_enter Try.func8, Try.ntmps8
        go_wp2_with (first | (go_at_call 24; refine (awake01 _).mono ?_; rintro e w1 ⟨rfl, hm1⟩) | (go_at_call 34; with_reducible (refine (Bytes_sl n S HN.out h2' _).mono ?_); rintro e w2 ⟨oa2, cap2, rfl, hs2, hm2⟩) | (go_at_call 34; refine (Bytes_sl (num l) l.length HU.out h3 _).mono ?_; rintro e w3 ⟨oa3, cap3, rfl, hs3, hm3⟩) | (go_at_call 31; with_reducible (refine (Number_any (bys n S) _ _ hs2 (Byt_bys _ _)).mono ?_); rintro e w4 ⟨rfl, rfl⟩) | (go_at_call 31; refine (Number_any l _ _ (((HS.out.keep hm1).keep hm2).keep (More.drewN _ _)) HB.out).mono ?_; rintro e w5 ⟨rfl, rfl⟩) | (go_at_call 25; refine (Field_any _ _ _ HN.out (by decide) (by unfold I64; omega) _).mono ?_; rintro e w5 ⟨rfl, k5, rfl⟩) | (go_at_call 33; refine (Same_any _ l _ _ _ hs3 ((((HS.out.keep hm1).keep hm2).keep (More.drewN _ _)).keep hm3)).mono ?_; rintro e w6 ⟨rfl, k6, rfl⟩))
        go_ret
        exact ⟨ret_bool (by simp [HBN.out]), (((hm1.trans hm2).dr _).trans hm3).dr _⟩
      · go_enter Try.func8, Try.ntmps8
        go_wp2_with (first | (go_at_call 24; refine (awake01 _).mono ?_; rintro e w1 ⟨rfl, hm1⟩))
        go_ret
        exact ⟨rfl, hm1⟩
    · go_enter Try.func8, Try.ntmps8
      go_wp2_with (first | (go_at_call 24; refine (awake01 _).mono ?_; rintro e w1 ⟨rfl, hm1⟩))
      go_ret
      exact ⟨rfl, hm1⟩
  · go_enter Try.func8, Try.ntmps8
    go_wp2_with (first | (go_at_call 24; refine (awake01 _).mono ?_; rintro e w1 ⟨rfl, hm1⟩))
    go_ret
    exact ⟨rfl, hm1⟩

end Go.Proofs.Ytiifoobkmojdcaa
