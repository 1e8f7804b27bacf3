/- Contracts of package route: which, Owners, Subs. -/
import Derived.Test.YtmhkjamibcdcdaaRouteB
import Derived.Test.YtmhkjamibcdcdaaSortI
import Derived.Test.YtmhkjamibcdcdaaBitsB
namespace Go.Proofs.Ytmhkjamibcdcdaa
open Go.RowKit
set_option maxRecDepth 100000

/-- The subscribers of which something holds. -/
def selT (pr : Sb → Bool) (u : List (Int × Sb)) : List Int := u.filterMap fun p => if pr p.2 then some p.1 else none
def whichT (pr : Sb → Bool) (u : List (Int × Sb)) : List Int := srt (selT pr u)
def prOwn (own : Int) (x : Sb) : Bool := decide (x.1 = own)
def prPub (pub : Int) (x : Sb) : Bool := x.2.1 && decide (x.2.2 = pub)
theorem selT_len (pr : Sb → Bool) (u : List (Int × Sb)) : (selT pr u).length ≤ u.length := List.length_filterMap_le _ _
theorem outs_len' {K V : Type} (L : List (K × V)) (is : List Nat) : (outs L is).length ≤ is.length := List.length_filterMap_le _ _
theorem selT_snoc (pr : Sb → Bool) (u : List (Int × Sb)) (p : Int × Sb) : selT pr (u ++ [p]) = selT pr u ++ (if pr p.2 then [p.1] else []) := by
  unfold selT
  rw [List.filterMap_append]
  by_cases h : pr p.2 = true <;> simp [h]
theorem clOwn {w : World} {C : Nat} (own : Int) (x : Sb) (hc : w.cell? ⟨C, 0, none⟩ = some (.int .u32 own)) (hlt : C < w.heap.size) :
    Calls Try.prog 88 #[.agg #[.int .u32 x.1, .bool x.2.1, .int .i64 x.2.2], .pointer (some ⟨C, 0, none⟩)] w fun e w' => e = .returned (.bool (prOwn own x)) ∧ More w w' := by
  have hc' := (More.alloc w (.cells #[.int .u32 x.1, .bool x.2.1, .int .i64 x.2.2] 152)).cells C 0 hlt
  rw [hc] at hc'
  go_enter Try.func88, Try.ntmps88
  go_wp2
  go_ret
  exact ⟨ret_bool (by unfold prOwn; rw [Bool.eq_iff_iff]; simp), More.alloc _ _⟩
theorem clPub {w : World} {C : Nat} (pub : Int) (x : Sb) (hc : w.cell? ⟨C, 0, none⟩ = some (.int .i64 pub)) (hlt : C < w.heap.size) :
    Calls Try.prog 89 #[.agg #[.int .u32 x.1, .bool x.2.1, .int .i64 x.2.2], .pointer (some ⟨C, 0, none⟩)] w fun e w' => e = .returned (.bool (prPub pub x)) ∧ More w w' := by
  have hc' := (More.alloc w (.cells #[.int .u32 x.1, .bool x.2.1, .int .i64 x.2.2] 152)).cells C 0 hlt
  rw [hc] at hc'
  cases hb : x.2.1 with
  | false =>
    have hp : prPub pub x = false := by unfold prPub; rw [hb]; rfl
    rw [hb] at hc'
    go_enter Try.func89, Try.ntmps89
    go_wp2
    go_ret
    exact ⟨ret_bool hp.symm, More.alloc _ _⟩
  | true =>
    have hp : prPub pub x = decide (x.2.2 = pub) := by unfold prPub; rw [hb]; rfl
    rw [hb] at hc'
    have HP := Lib.hid hp
    clear hp
    go_enter Try.func89, Try.ntmps89
    go_wp2
    go_ret
    exact ⟨ret_bool (by rw [HP.out, Bool.eq_iff_iff]; simp), More.alloc _ _⟩

set_option maxHeartbeats 2000000 in
theorem WhichOwners {w : World} {T a b c C : Nat} {t : TS} (h : TabAt w T a b c t) (v0 : Int) (hC : w.heap[C]? = some (.cells #[.int .u32 v0] 79 (0, 0))) (hlen : t.u.length ≤ 1000000) :
    Calls Try.prog 87 #[.pointer (some ⟨T, 0, none⟩), .func (.func 88) #[] #[.pointer (some ⟨C, 0, none⟩)]] w fun e w' => (∃ v, e = .returned v ∧ SlI .i64 w' v (whichT (prOwn v0) t.u) ∧ ∀ q, v.ownBlock = some q → w.heap.size ≤ q) ∧ More w w' := by
  obtain ⟨i0, hi, hz0, hz1, hz2⟩ := info_parts (P := Try.prog) (e := 3) (z := .int .i64 0) (size := 1) (bytes := 8) (by kernel_rfl)
  have c2 := blk_cell h.blk 2 (v := .map (some c)) rfl
  have BL := Lib.hid h
  have HC := Lib.hid hC
  have hlen' := Lib.hid hlen
  obtain ⟨w1, hr1, hR1, hM1, hs1⟩ := h.mu.range (P := Try.prog) Try.underlying147
  have hbm := h.mu.lt
  have HR1 := Lib.hid hR1
  have HM1 := Lib.hid hM1
  clear h hlen hR1 hM1 hs1 hC
  generalize hu : t.u = u at *
  have HU := Lib.hid hu
  clear hu
  go_enter Try.func87, Try.ntmps87
  go_wp2
  have hw1 : w.heap.size ≤ w1.heap.size := HM1.out.size
  go_loopw [5] (fun v5 wr => ∃ is : List Nat, RangeAt wr w.heap.size c (Value.int .i64) vS u is ∧ wr.ownsRow (w.heap.size + 1) 3 1 v5 (selT (prOwn v0) (outs u is)).length ((selT (prOwn v0) (outs u is)).map (Value.int .i64)) ∧ More w wr) (fun _ wr => rngLeft wr c w.heap.size)
  case atStart => exact ⟨[], HR1.out, World.ownsRow_nil _ _ _ _, HM1.out⟩
  case round =>
    obtain ⟨is, hR, ho, hm⟩ := hrel
    have HR := Lib.hid hR
    have HO := Lib.hid ho
    have HM := Lib.hid hm
    have HL := Lib.hid hR.left
    rcases hR.next (P := Try.prog) with ⟨hall, hn⟩ | ⟨i, hi', w2, hni, hlt, hn, hR2, hA2, hs2, he2⟩
    · clear hR ho hm
      have HA := Lib.hid hall
      clear hall
      have hl62 : (selT (prOwn v0) (outs u is)).length < 4611686018427387904 := by
        have h1 := selT_len (prOwn v0) (outs u is)
        have h2 := outs_len' u is
        have h3 := HA.out
        have h4 := hlen'.out
        omega
      go_wp2_with (go_at_call 76; ((with_reducible refine (SortI HO.out hl62).mono ?_); rintro e w3 ⟨rfl, ho3, hg3⟩; have HO3 := Lib.hid ho3; have HG3 := Lib.hid hg3; clear ho3 hg3))
      go_ret
      have hp := HR.out.perm HA.out
      have e1 : srt (selT (prOwn v0) (outs u is)) = whichT (prOwn v0) u := srt_perm (hp.filterMap _)
      have ho3 := HO3.out
      rw [e1] at ho3
      refine ⟨⟨_, rfl, SlI.of_owns ho3 ?_, fun q hq => by have := own_ge HO.out hq; omega⟩, HM.out.grown HG3.out HM.out.size ?_⟩
      · have h1 := selT_len (prOwn v0) u
        have h2 : (whichT (prOwn v0) u).length = (selT (prOwn v0) u).length := srt_len _
        have h4 := hlen'.out
        omega
      · intro q hq
        have := own_ge HO.out hq
        omega
    · have hp1 := selT_len (prOwn v0) (outs u is)
      have hp2 := outs_len' u is
      have hos := outs_snoc (L := u) (is := is) hi'
      have hps := selT_snoc (prOwn v0) (outs u is) u[i]
      rw [← hos] at hps
      have hl4 := hlen'.out
      have hlt' : is.length < 1000000 := by omega
      clear hR ho hm hos
      generalize u[i] = p at *
      obtain ⟨k, x⟩ := p
      unfold vS at hn he2
      simp only at hn he2 hps
      have ho2 := Lib.hid (own_off HO.out hA2 (fun z hz => by subst hz; exact Nat.lt_succ_self _))
      have HR2 := Lib.hid (hR2.more (More.alloc w2 (.cells #[.int .u32 x.1, .bool x.2.1, .int .i64 x.2.2] 152)))
      have hM2 : More w w2 := Away.to_more HM.out hA2 (fun z hz => by subst hz; exact Nat.le_refl _)
      have HM2 := Lib.hid hM2
      have hw2 : w.heap.size + 1 ≤ w2.heap.size := by have := HR.out.rlt; omega
      have HC2 := Lib.hid (blk_alloc (blk_more hM2 HC.out) (.cells #[.int .u32 x.1, .bool x.2.1, .int .i64 x.2.2] 152))
      have HS2 := Lib.hid hs2
      clear hR2 hA2 hM2 hs2
      cases hpr : prOwn v0 x with
      | true =>
        rw [hpr, if_pos rfl] at hps
        have HP := Lib.hid hps
        have HPR := Lib.hid hpr
        clear hps hpr
        go_wp2_with first | (go_at_call 88; ((with_reducible refine (clOwn v0 x (blk_cell HC2.out 0 rfl) (blk_lt HC2.out)).mono ?_); rintro e w4 ⟨rfl, m4⟩; rw [HPR.out]; have HR4 := Lib.hid (HR2.out.more m4); have HO4 := Lib.hid (owns_more (ho2.out.alloc (.cells #[.int .u32 x.1, .bool x.2.1, .int .i64 x.2.2] 152)) m4); have HM4 := Lib.hid ((HM2.out.al (.cells #[.int .u32 x.1, .bool x.2.1, .int .i64 x.2.2] 152)).trans m4); have z4 : w.heap.size + 1 ≤ w4.heap.size := Nat.le_trans (by simp; omega) m4.size; clear m4)) | (at_builtin; refine wpList_append_at _ rfl (.tmp 21) (.tmp 23) 47 rfl (w.heap.size + 1) 3 i0 (.int .i64 0) 8 Try.underlying47 hi hz0 hz1 hz2 rfl _ .i64 (selT (prOwn v0) (outs u is)) rfl (HO4.out.alloc _) _ [k] rfl (SlI.lit .i64 w4 [k] 3 _ 1 _ (by simp) rfl rfl (by simp)) (by simp; omega) (by decide) (by simp; omega) ?_; intro v6 w6 own6 grow6 _; have HO6 := Lib.hid own6; have HA6 := Lib.hid (Away.of_grown grow6); have HG6 := Lib.hid grow6; clear own6 grow6)
        go_roundw
        case rel =>
          refine ⟨is ++ [i], (HR4.out.more (More.alloc _ _)).away HA6.out ?_ ?_, ?_, ?_⟩
          · intro e
            have := own_ge ho2.out e
            omega
          · intro e
            have := own_ge ho2.out e
            omega
          · rw [HP.out]; exact HO6.out
          · exact ((HM4.out.al _).grown HG6.out (HM4.out.al _).size (fun q hq => by have := own_ge ho2.out hq; omega))
        case measure =>
          have hR6 := (HR4.out.more (More.alloc _ _)).away HA6.out (fun e => by have := own_ge ho2.out e; omega) (fun e => by have := own_ge ho2.out e; omega)
          rw [HL.out, hR6.left]
          simp
          omega
      | false =>
        rw [hpr, if_neg (by simp), List.append_nil] at hps
        have HP := Lib.hid hps
        have HPR := Lib.hid hpr
        clear hps hpr
        go_wp2_with (go_at_call 88; ((with_reducible refine (clOwn v0 x (blk_cell HC2.out 0 rfl) (blk_lt HC2.out)).mono ?_); rintro e w4 ⟨rfl, m4⟩; rw [HPR.out]; have HR4 := Lib.hid (HR2.out.more m4); have HO4 := Lib.hid (owns_more (ho2.out.alloc (.cells #[.int .u32 x.1, .bool x.2.1, .int .i64 x.2.2] 152)) m4); have HM4 := Lib.hid ((HM2.out.al (.cells #[.int .u32 x.1, .bool x.2.1, .int .i64 x.2.2] 152)).trans m4); clear m4))
        go_roundw
        case rel => exact ⟨is ++ [i], HR4.out, by rw [HP.out]; exact HO4.out, HM4.out⟩
        case measure =>
          rw [HL.out, HR4.out.left]
          simp
          omega
set_option maxHeartbeats 400000 in
theorem RTOwners {w : World} {T a b c : Nat} {t : TS} (h : TabAt w T a b c t) (v0 : Int) (hlen : t.u.length ≤ 1000000) :
    Calls Try.prog 41 #[.pointer (some ⟨T, 0, none⟩), .int .u32 v0] w fun e w' => (∃ v, e = .returned v ∧ SlI .i64 w' v (whichT (prOwn v0) t.u)) ∧ More w w' := by
  go_enter Try.func41, Try.ntmps41
  go_wp2_with (go_at_call 87; ((with_reducible refine (WhichOwners (h.more (More.alloc w (.cells #[.int .u32 v0] 79))) v0 (blk_new w _) hlen).mono ?_); rintro e w2 ⟨⟨v, rfl, s, _⟩, m⟩; have S := Lib.hid s; have M := Lib.hid m; clear s m))
  go_ret
  exact ⟨⟨_, rfl, S.out⟩, (More.alloc _ _).trans M.out⟩

set_option maxHeartbeats 2000000 in
theorem WhichSubs {w : World} {T a b c C : Nat} {t : TS} (h : TabAt w T a b c t) (v0 : Int) (hC : w.heap[C]? = some (.cells #[.int .i64 v0] 3 (0, 0))) (hlen : t.u.length ≤ 1000000) :
    Calls Try.prog 87 #[.pointer (some ⟨T, 0, none⟩), .func (.func 89) #[] #[.pointer (some ⟨C, 0, none⟩)]] w fun e w' => (∃ v, e = .returned v ∧ SlI .i64 w' v (whichT (prPub v0) t.u) ∧ ∀ q, v.ownBlock = some q → w.heap.size ≤ q) ∧ More w w' := by
  obtain ⟨i0, hi, hz0, hz1, hz2⟩ := info_parts (P := Try.prog) (e := 3) (z := .int .i64 0) (size := 1) (bytes := 8) (by kernel_rfl)
  have c2 := blk_cell h.blk 2 (v := .map (some c)) rfl
  have BL := Lib.hid h
  have HC := Lib.hid hC
  have hlen' := Lib.hid hlen
  obtain ⟨w1, hr1, hR1, hM1, hs1⟩ := h.mu.range (P := Try.prog) Try.underlying147
  have hbm := h.mu.lt
  have HR1 := Lib.hid hR1
  have HM1 := Lib.hid hM1
  clear h hlen hR1 hM1 hs1 hC
  generalize hu : t.u = u at *
  have HU := Lib.hid hu
  clear hu
  go_enter Try.func87, Try.ntmps87
  go_wp2
  have hw1 : w.heap.size ≤ w1.heap.size := HM1.out.size
  go_loopw [5] (fun v5 wr => ∃ is : List Nat, RangeAt wr w.heap.size c (Value.int .i64) vS u is ∧ wr.ownsRow (w.heap.size + 1) 3 1 v5 (selT (prPub v0) (outs u is)).length ((selT (prPub v0) (outs u is)).map (Value.int .i64)) ∧ More w wr) (fun _ wr => rngLeft wr c w.heap.size)
  case atStart => exact ⟨[], HR1.out, World.ownsRow_nil _ _ _ _, HM1.out⟩
  case round =>
    obtain ⟨is, hR, ho, hm⟩ := hrel
    have HR := Lib.hid hR
    have HO := Lib.hid ho
    have HM := Lib.hid hm
    have HL := Lib.hid hR.left
    rcases hR.next (P := Try.prog) with ⟨hall, hn⟩ | ⟨i, hi', w2, hni, hlt, hn, hR2, hA2, hs2, he2⟩
    · clear hR ho hm
      have HA := Lib.hid hall
      clear hall
      have hl62 : (selT (prPub v0) (outs u is)).length < 4611686018427387904 := by
        have h1 := selT_len (prPub v0) (outs u is)
        have h2 := outs_len' u is
        have h3 := HA.out
        have h4 := hlen'.out
        omega
      go_wp2_with (go_at_call 76; ((with_reducible refine (SortI HO.out hl62).mono ?_); rintro e w3 ⟨rfl, ho3, hg3⟩; have HO3 := Lib.hid ho3; have HG3 := Lib.hid hg3; clear ho3 hg3))
      go_ret
      have hp := HR.out.perm HA.out
      have e1 : srt (selT (prPub v0) (outs u is)) = whichT (prPub v0) u := srt_perm (hp.filterMap _)
      have ho3 := HO3.out
      rw [e1] at ho3
      refine ⟨⟨_, rfl, SlI.of_owns ho3 ?_, fun q hq => by have := own_ge HO.out hq; omega⟩, HM.out.grown HG3.out HM.out.size ?_⟩
      · have h1 := selT_len (prPub v0) u
        have h2 : (whichT (prPub v0) u).length = (selT (prPub v0) u).length := srt_len _
        have h4 := hlen'.out
        omega
      · intro q hq
        have := own_ge HO.out hq
        omega
    · have hp1 := selT_len (prPub v0) (outs u is)
      have hp2 := outs_len' u is
      have hos := outs_snoc (L := u) (is := is) hi'
      have hps := selT_snoc (prPub v0) (outs u is) u[i]
      rw [← hos] at hps
      have hl4 := hlen'.out
      have hlt' : is.length < 1000000 := by omega
      clear hR ho hm hos
      generalize u[i] = p at *
      obtain ⟨k, x⟩ := p
      unfold vS at hn he2
      simp only at hn he2 hps
      have ho2 := Lib.hid (own_off HO.out hA2 (fun z hz => by subst hz; exact Nat.lt_succ_self _))
      have HR2 := Lib.hid (hR2.more (More.alloc w2 (.cells #[.int .u32 x.1, .bool x.2.1, .int .i64 x.2.2] 152)))
      have hM2 : More w w2 := Away.to_more HM.out hA2 (fun z hz => by subst hz; exact Nat.le_refl _)
      have HM2 := Lib.hid hM2
      have hw2 : w.heap.size + 1 ≤ w2.heap.size := by have := HR.out.rlt; omega
      have HC2 := Lib.hid (blk_alloc (blk_more hM2 HC.out) (.cells #[.int .u32 x.1, .bool x.2.1, .int .i64 x.2.2] 152))
      have HS2 := Lib.hid hs2
      clear hR2 hA2 hM2 hs2
      cases hpr : prPub v0 x with
      | true =>
        rw [hpr, if_pos rfl] at hps
        have HP := Lib.hid hps
        have HPR := Lib.hid hpr
        clear hps hpr
        go_wp2_with first | (go_at_call 89; ((with_reducible refine (clPub v0 x (blk_cell HC2.out 0 rfl) (blk_lt HC2.out)).mono ?_); rintro e w4 ⟨rfl, m4⟩; rw [HPR.out]; have HR4 := Lib.hid (HR2.out.more m4); have HO4 := Lib.hid (owns_more (ho2.out.alloc (.cells #[.int .u32 x.1, .bool x.2.1, .int .i64 x.2.2] 152)) m4); have HM4 := Lib.hid ((HM2.out.al (.cells #[.int .u32 x.1, .bool x.2.1, .int .i64 x.2.2] 152)).trans m4); have z4 : w.heap.size + 1 ≤ w4.heap.size := Nat.le_trans (by simp; omega) m4.size; clear m4)) | (at_builtin; refine wpList_append_at _ rfl (.tmp 21) (.tmp 23) 47 rfl (w.heap.size + 1) 3 i0 (.int .i64 0) 8 Try.underlying47 hi hz0 hz1 hz2 rfl _ .i64 (selT (prPub v0) (outs u is)) rfl (HO4.out.alloc _) _ [k] rfl (SlI.lit .i64 w4 [k] 3 _ 1 _ (by simp) rfl rfl (by simp)) (by simp; omega) (by decide) (by simp; omega) ?_; intro v6 w6 own6 grow6 _; have HO6 := Lib.hid own6; have HA6 := Lib.hid (Away.of_grown grow6); have HG6 := Lib.hid grow6; clear own6 grow6)
        go_roundw
        case rel =>
          refine ⟨is ++ [i], (HR4.out.more (More.alloc _ _)).away HA6.out ?_ ?_, ?_, ?_⟩
          · intro e
            have := own_ge ho2.out e
            omega
          · intro e
            have := own_ge ho2.out e
            omega
          · rw [HP.out]; exact HO6.out
          · exact ((HM4.out.al _).grown HG6.out (HM4.out.al _).size (fun q hq => by have := own_ge ho2.out hq; omega))
        case measure =>
          have hR6 := (HR4.out.more (More.alloc _ _)).away HA6.out (fun e => by have := own_ge ho2.out e; omega) (fun e => by have := own_ge ho2.out e; omega)
          rw [HL.out, hR6.left]
          simp
          omega
      | false =>
        rw [hpr, if_neg (by simp), List.append_nil] at hps
        have HP := Lib.hid hps
        have HPR := Lib.hid hpr
        clear hps hpr
        go_wp2_with (go_at_call 89; ((with_reducible refine (clPub v0 x (blk_cell HC2.out 0 rfl) (blk_lt HC2.out)).mono ?_); rintro e w4 ⟨rfl, m4⟩; rw [HPR.out]; have HR4 := Lib.hid (HR2.out.more m4); have HO4 := Lib.hid (owns_more (ho2.out.alloc (.cells #[.int .u32 x.1, .bool x.2.1, .int .i64 x.2.2] 152)) m4); have HM4 := Lib.hid ((HM2.out.al (.cells #[.int .u32 x.1, .bool x.2.1, .int .i64 x.2.2] 152)).trans m4); clear m4))
        go_roundw
        case rel => exact ⟨is ++ [i], HR4.out, by rw [HP.out]; exact HO4.out, HM4.out⟩
        case measure =>
          rw [HL.out, HR4.out.left]
          simp
          omega
set_option maxHeartbeats 400000 in
theorem RTSubs {w : World} {T a b c : Nat} {t : TS} (h : TabAt w T a b c t) (v0 : Int) (hlen : t.u.length ≤ 1000000) :
    Calls Try.prog 47 #[.pointer (some ⟨T, 0, none⟩), .int .i64 v0] w fun e w' => (∃ v, e = .returned v ∧ SlI .i64 w' v (whichT (prPub v0) t.u)) ∧ More w w' := by
  go_enter Try.func47, Try.ntmps47
  go_wp2_with (go_at_call 87; ((with_reducible refine (WhichSubs (h.more (More.alloc w (.cells #[.int .i64 v0] 3))) v0 (blk_new w _) hlen).mono ?_); rintro e w2 ⟨⟨v, rfl, s, _⟩, m⟩; have S := Lib.hid s; have M := Lib.hid m; clear s m))
  go_ret
  exact ⟨⟨_, rfl, S.out⟩, (More.alloc _ _).trans M.out⟩

end Go.Proofs.Ytmhkjamibcdcdaa
