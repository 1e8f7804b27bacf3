/- The walk of the law BitsTells. -/
import Derived.Test.YtiifoobkmojdcaaBitsD
import Derived.Test.YtiifoobkmojdcaaBitsL
namespace Go.Proofs.Ytiifoobkmojdcaa
open Go.RowKit
set_option maxRecDepth 100000

set_option maxHeartbeats 2000000 in
theorem BitsTells_law (n u a s : Int) (v : Value) (l : List Int) (w : World) (hn : U64 n) (hu : U64 u) (ha : I64 a) (hs : I64 s) (hv : SlI .u8 w v l) (hb : Byt l) :
    Calls Try.prog 6 #[.int .u64 n, .int .u64 u, .int .i64 a, .int .i64 s, v] w fun e w' => e = .returned (.bool true) ∧ More w w' := by
  have HS := Lib.hid hv
  obtain ⟨oa, cap, rfl, hl, _, _, _, _⟩ := hv
  have HN := Lib.hid hn
  have HU := Lib.hid hu
  have HA := Lib.hid ha
  have HI := Lib.hid hs
  have HB := Lib.hid hb
  clear hn hu ha hs hb
  by_cases h3 : l.length ≤ 20
  · go_enter Try.func6, Try.ntmps6
    go_wp2_with (first | (go_at_call 24; refine (awake01 _).mono ?_; rintro e w1 ⟨rfl, hm1⟩) | (go_at_call 25; refine (Field_any _ _ _ HN.out HA.out HI.out _).mono ?_; rintro e w2 ⟨rfl, k2, rfl⟩) | (go_at_call 26; refine (RField_any _ _ _ HN.out HA.out HI.out _).mono ?_; rintro e w2 ⟨rfl, k3, rfl⟩) | (go_at_call 27; refine (Lay_any _ _ _ _ HN.out HU.out HA.out HI.out _).mono ?_; rintro e w2 ⟨rfl, k4, rfl⟩) | (go_at_call 28; refine (RLay_any _ _ _ _ HN.out HU.out HA.out HI.out _).mono ?_; rintro e w2 ⟨rfl, rfl⟩) | (go_at_call 29; refine (Signed_any _ _ HN.out HI.out _).mono ?_; rintro e w2 ⟨rfl, rfl⟩) | (go_at_call 30; refine (RSigned_any _ _ HN.out HI.out _).mono ?_; rintro e w2 ⟨rfl, k5, rfl⟩) | (go_at_call 31; refine (Number_any l _ _ ((HS.out.keep hm1).keep (More.drewN _ _)) HB.out).mono ?_; rintro e w3 ⟨rfl, rfl⟩) | (go_at_call 32; refine (RNumber_any l _ _ ((HS.out.keep hm1).keep (More.drewN _ _)) HB.out).mono ?_; rintro e w3 ⟨rfl, rfl⟩) | (go_at_call 34; refine (Bytes_all n s HN.out HI.out _).mono ?_; rintro e w4 ⟨v4, rfl, hs4, hm4⟩) | (go_at_call 35; refine (RBytes_all n s HN.out HI.out _).mono ?_; rintro e w5 ⟨v5, rfl, hs5, hm5⟩) | (go_at_call 33; refine (Same_any _ _ _ _ _ (hs4.keep hm5) hs5).mono ?_; rintro e w6 ⟨rfl, k6, rfl⟩))
    go_ret
    exact ⟨ret_bool (by simp), (((hm1.dr _).trans hm4).trans hm5).dr _⟩
  · go_enter Try.func6, Try.ntmps6
    go_wp2_with (go_at_call 24; refine (awake01 _).mono ?_; rintro e w1 ⟨rfl, hm1⟩)
    go_ret
    exact ⟨rfl, hm1⟩

end Go.Proofs.Ytiifoobkmojdcaa
