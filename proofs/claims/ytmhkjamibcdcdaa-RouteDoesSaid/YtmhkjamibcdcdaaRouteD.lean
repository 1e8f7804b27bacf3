/- Contracts of package route: Publish. -/
import Derived.Test.YtmhkjamibcdcdaaRouteC
namespace Go.Proofs.Ytmhkjamibcdcdaa
open Go.RowKit
set_option maxRecDepth 100000

def SomeIdx (x : Int) (l : List Int) (w : World) (e : Ending) (w' : World) : Prop := ∃ n : Int, (0 ≤ n ↔ x ∈ l) ∧ -1 ≤ n ∧ e = .returned (.int .i64 n) ∧ w = w'
set_option maxHeartbeats 400000 in
theorem IndexU {w : World} {v : Value} {l : List Int} (x : Int) (s : SlI .u32 w v l) : Calls Try.prog 125 #[v, .int .u32 x] w (SomeIdx x l w) := by
  obtain ⟨oa, cap, rfl, hl63, hel, _⟩ := s
  go_enter Try.func125, Try.ntmps125
  go_wp2
  go_loop [8] (fun i => ∃ k : Nat, k ≤ l.length ∧ i = .int .i64 k ∧ x ∉ l.take k) (fun i => l.length - (intOf i).toNat)
  case atStart => exact ⟨0, by omega, rfl, by simp⟩
  case round =>
    obtain ⟨k, hk, rfl, hni⟩ := hrel
    by_cases hlt : k < l.length
    · obtain ⟨b, off, rfl, hb, hc⟩ := hel k hlt
      have hkl : (k : Int) < (l.length : Int) := by omega
      have hgd : l.getD k 0 = l[k] := by simp [hlt]
      rw [hgd] at hc
      have htk : l.take (k + 1) = l.take k ++ [l[k]] := List.take_succ_eq_append_getElem hlt
      have hmem : l[k] ∈ l := List.getElem_mem hlt
      have HT := Lib.hid htk
      have HN := Lib.hid hni
      clear hel hgd htk hni
      generalize l[k] = y at *
      by_cases e : x = y
      · subst e
        go_wp2
        go_ret
        exact ⟨k, ⟨fun _ => hmem, fun _ => by omega⟩, by omega, rfl, rfl⟩
      · have e' : (x == y) = false := by simpa using e
        have HE := Lib.hid e
        clear e
        go_wp2
        go_round
        case rel => exact ⟨k + 1, by omega, by go_num, by rw [HT.out]; simp; exact ⟨HN.out, HE.out⟩⟩
        case measure => simp [intOf]; omega
    · obtain rfl : k = l.length := by omega
      clear hel
      have HN := Lib.hid hni
      clear hni
      go_wp2
      go_ret
      refine ⟨-1, ⟨fun h => by omega, fun h => ?_⟩, by omega, rfl, rfl⟩
      have := HN.out
      rw [List.take_length] at this
      exact absurd h this
theorem ContainsU {w : World} {v : Value} {l : List Int} (x : Int) (s : SlI .u32 w v l) : Calls Try.prog 105 #[v, .int .u32 x] w fun e w' => e = .returned (.bool (decide (x ∈ l))) ∧ w = w' := by
  go_enter Try.func105, Try.ntmps105
  go_wp2_with (go_at_call 125; ((with_reducible refine (IndexU x s).mono ?_); rintro e w2 ⟨n, hn, hn1, rfl, rfl⟩; have HN := Lib.hid hn; clear hn))
  go_ret
  exact ⟨ret_bool (by rw [Bool.eq_iff_iff]; simp only [decide_eq_true_eq]; exact HN.out), rfl⟩

/-- The origins and the sources, when so many layers of a publisher were laid there. -/
def oAt (o : List (Int × Og)) (p s0 s1 s2 : Int) : Nat → List (Int × Og)
  | 0 => o
  | 1 => mput o s0 (p, 0)
  | 2 => mput (mput o s0 (p, 0)) s1 (p, 1)
  | _ => mput (mput (mput o s0 (p, 0)) s1 (p, 1)) s2 (p, 2)
def sAt (s : List (Og × Int)) (p s0 s1 s2 : Int) : Nat → List (Og × Int)
  | 0 => s
  | 1 => mput s (p, 0) s0
  | 2 => mput (mput s (p, 0) s0) (p, 1) s1
  | _ => mput (mput (mput s (p, 0) s0) (p, 1) s1) (p, 2) s2
theorem oAt_step (o : List (Int × Og)) (p s0 s1 s2 : Int) (k : Nat) (h : k < 3) : oAt o p s0 s1 s2 (k + 1) = mput (oAt o p s0 s1 s2 k) ([s0, s1, s2].getD k 0) (p, (k : Int)) := by
  have : k = 0 ∨ k = 1 ∨ k = 2 := by omega
  rcases this with rfl | rfl | rfl <;> rfl
theorem sAt_step (s : List (Og × Int)) (p s0 s1 s2 : Int) (k : Nat) (h : k < 3) : sAt s p s0 s1 s2 (k + 1) = mput (sAt s p s0 s1 s2 k) (p, (k : Int)) ([s0, s1, s2].getD k 0) := by
  have : k = 0 ∨ k = 1 ∨ k = 2 := by omega
  rcases this with rfl | rfl | rfl <;> rfl
def dup3 (s0 s1 s2 : Int) : Prop := s1 = s0 ∨ s2 = s0 ∨ s2 = s1
instance (s0 s1 s2 : Int) : Decidable (dup3 s0 s1 s2) := by unfold dup3; exact inferInstance
def pubT (t : TS) (p s0 s1 s2 : Int) : TS × Int := if 0 ≤ p ∧ p < 3 then (if dup3 s0 s1 s2 then (t, 1) else if (mget t.s (p, 0)).isSome then (t, 6) else if (mget t.o s0).isSome ∨ (mget t.o s1).isSome ∨ (mget t.o s2).isSome then (t, 6)
  else ({ t with o := oAt t.o p s0 s1 s2 3, s := sAt t.s p s0 s1 s2 3 }, 0)) else (t, 1)
theorem dup_in {s0 s1 s2 : Int} {k : Nat} (h : k < 3) (hm : [s0, s1, s2].getD k 0 ∈ [s0, s1, s2].take k) : dup3 s0 s1 s2 := by
  have : k = 0 ∨ k = 1 ∨ k = 2 := by omega
  unfold dup3
  rcases this with rfl | rfl | rfl <;> simp at hm <;> omega
theorem dup_no {s0 s1 s2 : Int} (h : ∀ k, k < 3 → [s0, s1, s2].getD k 0 ∉ [s0, s1, s2].take k) : ¬ dup3 s0 s1 s2 := by
  have h1 := h 1 (by omega)
  have h2 := h 2 (by omega)
  simp at h1 h2
  unfold dup3
  omega
theorem any3 {p : Int → Prop} {s0 s1 s2 : Int} {k : Nat} (h : k < 3) (hp : p ([s0, s1, s2].getD k 0)) : p s0 ∨ p s1 ∨ p s2 := by
  have : k = 0 ∨ k = 1 ∨ k = 2 := by omega
  rcases this with rfl | rfl | rfl
  · exact Or.inl hp
  · exact Or.inr (Or.inl hp)
  · exact Or.inr (Or.inr hp)
theorem all3 {p : Int → Prop} {s0 s1 s2 : Int} (h : ∀ k, k < 3 → ¬ p ([s0, s1, s2].getD k 0)) : ¬ (p s0 ∨ p s1 ∨ p s2) := by
  rintro (a | a | a)
  · exact h 0 (by omega) a
  · exact h 1 (by omega) a
  · exact h 2 (by omega) a
theorem idx3 (s0 s1 s2 : Int) (k : Nat) (h : k < 3) (w : World) : (Instr.index 80 (.agg #[.int .u32 s0, .int .u32 s1, .int .u32 s2]) (.int .i64 (k : Int))).run Try.prog w = .ok (.int .u32 ([s0, s1, s2].getD k 0)) w := by
  have : k = 0 ∨ k = 1 ∨ k = 2 := by omega
  rcases this with rfl | rfl | rfl
  all_goals first | rfl | simp [go_sem]
theorem sl3 (C k : Nat) (hk : k ≤ 3) (w : World) : (Instr.sliceAt 80 (.pointer (some ⟨C, 0, none⟩)) none (some (.int .i64 (k : Int))) none).run Try.prog w = .ok (.slice (some ⟨C, 0, none⟩) k 3) w := by
  have hal : Try.prog.arrayLen 80 = 3 := by kernel_rfl
  have hs : (sizeOf (Try.prog.elem 80)).run Try.prog w = .ok 1 w := by kernel_rfl
  rw [run_sliceAt_array_h w 80 ⟨C, 0, none⟩ (by kernel_rfl) .i64 (k : Int) (by omega) (by rw [hal]; omega), hs, hal]
  simp [slicedAt, Addr.add]
theorem row3 {w : World} {C : Nat} {s0 s1 s2 : Int} (h : w.heap[C]? = some (.cells #[.int .u32 s0, .int .u32 s1, .int .u32 s2] 80 (0, 0))) (k : Nat) (hk : k ≤ 3) : SlI .u32 w (.slice (some ⟨C, 0, none⟩) k 3) ([s0, s1, s2].take k) := by
  have hl : ([s0, s1, s2].take k).length = k := by simp; omega
  refine ⟨some ⟨C, 0, none⟩, 3, by rw [hl], by rw [hl]; omega, fun i hi => ?_, by rw [hl]; exact hk, by unfold maxLen; omega, fun h => by cases h⟩
  rw [hl] at hi
  refine ⟨C, 0, rfl, blk_lt h, blk_cell h _ ?_⟩
  have : i = 0 ∨ i = 1 ∨ i = 2 := by omega
  rcases this with rfl | rfl | rfl
  · have : ([s0, s1, s2].take k).getD 0 0 = s0 := by rw [List.getD_eq_getElem?_getD, List.getElem?_take_of_lt (by omega)]; rfl
    rw [this]; rfl
  · have : ([s0, s1, s2].take k).getD 1 0 = s1 := by rw [List.getD_eq_getElem?_getD, List.getElem?_take_of_lt (by omega)]; rfl
    rw [this]; rfl
  · have : ([s0, s1, s2].take k).getD 2 0 = s2 := by rw [List.getD_eq_getElem?_getD, List.getElem?_take_of_lt (by omega)]; rfl
    rw [this]; rfl
theorem pub_post {P : Program} {f : FuncId} {args : Array Value} {w : World} {T a b c : Nat} {r : TS × Int} {t' : TS} {v : Int} (hr : r = (t', v)) (h : Calls P f args w fun e w' => e = .returned (.int .i64 v) ∧ TabAt w' T a b c t' ∧ Away (fun z => z = a ∨ z = b) w w') :
    Calls P f args w fun e w' => e = .returned (.int .i64 r.2) ∧ TabAt w' T a b c r.1 ∧ Away (fun z => z = a ∨ z = b) w w' := by
  subst hr
  exact h
def PubPost (r : TS × Int) (T a b c : Nat) (w : World) (e : Ending) (w' : World) : Prop := e = .returned (.int .i64 r.2) ∧ TabAt w' T a b c r.1 ∧ Away (fun z => z = a ∨ z = b) w w'
set_option maxHeartbeats 4000000 in
theorem RTPublish {w : World} {T a b c : Nat} {t : TS} (h : TabAt w T a b c t) (p s0 s1 s2 : Int) :
    Calls Try.prog 77 #[.pointer (some ⟨T, 0, none⟩), .int .i64 p, .agg #[.int .u32 s0, .int .u32 s1, .int .u32 s2]] w (PubPost (pubT t p s0 s1 s2) T a b c w) := by
  by_cases hp : 0 ≤ p ∧ p < 3
  · have HP := Lib.hid hp
    have HT := Lib.hid h
    have hBX := blk_new w (.cells #[.int .u32 s0, .int .u32 s1, .int .u32 s2] 80)
    have BX := Lib.hid hBX
    have hTc := blk_lt h.blk
    have hac := h.mo.lt
    have hbc := h.ms.lt
    clear hp h hBX
    go_enter Try.func77, Try.ntmps77
    go_wp2_with (go_at_call 104; ((with_reducible refine (MayPub_yes p _ HP.out).mono ?_); rintro e w2 ⟨rfl, rfl⟩))
    go_loop [20] (fun i => ∃ k : Nat, k ≤ 3 ∧ i = .int .i64 k ∧ ∀ j, j < k → [s0, s1, s2].getD j 0 ∉ [s0, s1, s2].take j) (fun i => 3 - (intOf i).toNat)
    case atStart => exact ⟨0, by omega, rfl, fun j hj => by omega⟩
    case round =>
      obtain ⟨k, hk, rfl, hno⟩ := hrel
      have HNO := Lib.hid hno
      clear hno
      by_cases hk3 : k < 3
      · have hk3i : (k : Int) < 3 := by omega
        have hix := fun w => idx3 s0 s1 s2 k hk3 w
        have HR3 := Lib.hid (row3 BX.out k (by omega))
        have hsl := fun w' => sl3 w.heap.size k (by omega) w'
        have HK := Lib.hid (dup_in (s0 := s0) (s1 := s1) (s2 := s2) hk3)
        have HNX : Hid (∀ y, [s0, s1, s2].getD k 0 = y → y ∉ [s0, s1, s2].take k → ∀ j, j < k + 1 → [s0, s1, s2].getD j 0 ∉ [s0, s1, s2].take j) := Lib.hid (fun y e hn j hj => by
          subst e
          by_cases e : j < k
          · exact HNO.out j e
          · obtain rfl : j = k := by omega
            exact hn)
        generalize hy : [s0, s1, s2].getD k 0 = y at *
        have HYY := Lib.hid hy
        clear hy
        by_cases hm : y ∈ [s0, s1, s2].take k
        · have HM := Lib.hid hm
          clear hm
          go_wp2_with (go_at_call 105; ((with_reducible refine (ContainsU y HR3.out).mono ?_); rintro e w2 ⟨rfl, rfl⟩; rw [decide_eq_true HM.out]))
          go_ret
          have e1 : pubT t p s0 s1 s2 = (t, 1) := by unfold pubT; rw [if_pos HP.out, if_pos (HK.out HM.out)]
          unfold PubPost
          rw [e1]
          exact ⟨rfl, HT.out.more (More.alloc _ _), Away.of_more (More.alloc _ _)⟩
        · have HM := Lib.hid hm
          clear hm
          go_wp2_with (go_at_call 105; ((with_reducible refine (ContainsU y HR3.out).mono ?_); rintro e w2 ⟨rfl, rfl⟩; rw [decide_eq_false HM.out]))
          go_round
          case rel => exact ⟨k + 1, by omega, by go_num, HNX.out y rfl HM.out⟩
          case measure => simp [intOf]; omega
      · obtain rfl : k = 3 := by omega
        have HND := Lib.hid (dup_no HNO.out)
        clear HNO
        cases hps : (mget t.s (p, 0)).isSome with
        | true =>
          have HPS := Lib.hid hps
          clear hps
          go_wp2_with (go_at_call 106; ((with_reducible refine (RTPublished (HT.out.more (More.alloc w (.cells #[.int .u32 s0, .int .u32 s1, .int .u32 s2] 80))) p).mono ?_); rintro e w2 ⟨rfl, rfl⟩; rw [HPS.out]))
          go_ret
          have e1 : pubT t p s0 s1 s2 = (t, 6) := by unfold pubT; rw [if_pos HP.out, if_neg HND.out, if_pos HPS.out]
          unfold PubPost
          rw [e1]
          exact ⟨rfl, HT.out.more (More.alloc _ _), Away.of_more (More.alloc _ _)⟩
        | false =>
          have HPS := Lib.hid hps
          clear hps
          go_wp2_with (go_at_call 106; ((with_reducible refine (RTPublished (HT.out.more (More.alloc w (.cells #[.int .u32 s0, .int .u32 s1, .int .u32 s2] 80))) p).mono ?_); rintro e w2 ⟨rfl, rfl⟩; rw [HPS.out]))
          go_loopw [33] (fun i wr => ∃ k : Nat, k ≤ 3 ∧ i = .int .i64 k ∧ (∀ j, j < k → ¬ (mget t.o ([s0, s1, s2].getD j 0)).isSome = true) ∧ More (w.alloc (.cells #[.int .u32 s0, .int .u32 s1, .int .u32 s2] 80)) wr) (fun i _ => 3 - (intOf i).toNat)
          case atStart => exact ⟨0, by omega, rfl, fun j hj => by omega, More.refl _⟩
          case round =>
            obtain ⟨k, hk, rfl, hno, hmr⟩ := hrel
            have HNO := Lib.hid hno
            have HMR := Lib.hid hmr
            clear hno hmr
            by_cases hk3 : k < 3
            · have hk3i : (k : Int) < 3 := by omega
              have hix := fun w => idx3 s0 s1 s2 k hk3 w
              have hTr := (HT.out.more (More.alloc w _)).more HMR.out
              have ct := blk_cell hTr.blk 0 (v := .map (some a)) rfl
              have q := hTr.lookO ([s0, s1, s2].getD k 0)
              have HA3 := Lib.hid (any3 (p := fun z => (mget t.o z).isSome = true) (s0 := s0) (s1 := s1) (s2 := s2) hk3)
              have HNX : Hid (∀ y, [s0, s1, s2].getD k 0 = y → ¬ (mget t.o y).isSome = true → ∀ j, j < k + 1 → ¬ (mget t.o ([s0, s1, s2].getD j 0)).isSome = true) := Lib.hid (fun y e hn j hj => by
                subst e
                by_cases e : j < k
                · exact HNO.out j e
                · obtain rfl : j = k := by omega
                  exact hn)
              have HTR := Lib.hid hTr
              clear hTr
              generalize hy : [s0, s1, s2].getD k 0 = y at *
              have HYY := Lib.hid hy
              clear hy
              cases hs : (mget t.o y).isSome with
              | true =>
                rw [hs] at q
                have HS := Lib.hid hs
                clear hs
                go_wp2
                go_ret
                have e1 : pubT t p s0 s1 s2 = (t, 6) := by
                  unfold pubT
                  rw [if_pos HP.out, if_neg HND.out, if_neg (by rw [HPS.out]; simp), if_pos]
                  exact HA3.out HS.out
                unfold PubPost
                rw [e1]
                exact ⟨rfl, HTR.out.more (More.alloc _ _), Away.of_more (((More.alloc _ _).trans HMR.out).al _)⟩
              | false =>
                rw [hs] at q
                have HS := Lib.hid hs
                clear hs
                go_wp2
                go_roundw
                case rel => exact ⟨k + 1, by omega, by go_num, HNX.out y rfl (by rw [HS.out]; simp), HMR.out.al _⟩
                case measure => simp [intOf]; omega
            · obtain rfl : k = 3 := by omega
              have HNA := Lib.hid (all3 (p := fun z => (mget t.o z).isSome = true) HNO.out)
              have HB2 := Lib.hid (blk_more HMR.out BX.out)
              have bx0 := blk_cell HB2.out 0 (v := .int .u32 s0) rfl
              have bx1 := blk_cell HB2.out 1 (v := .int .u32 s1) rfl
              have bx2 := blk_cell HB2.out 2 (v := .int .u32 s2) rfl
              have e1 : pubT t p s0 s1 s2 = ({ t with o := oAt t.o p s0 s1 s2 3, s := sAt t.s p s0 s1 s2 3 }, 0) := by
                unfold pubT
                rw [if_pos HP.out, if_neg HND.out, if_neg (by rw [HPS.out]; simp), if_neg HNA.out]
              have HE1 := Lib.hid e1
              have HTR := Lib.hid ((HT.out.more (More.alloc w _)).more HMR.out)
              have HMW := Lib.hid (Away.of_more (S := fun z => z = a ∨ z = b) ((More.alloc w (.cells #[.int .u32 s0, .int .u32 s1, .int .u32 s2] 80)).trans HMR.out))
              clear HNO e1
              go_wp2_with fail
              clear bx0 bx1 bx2
              go_loopw [48] (fun i wq => ∃ k : Nat, k ≤ 3 ∧ i = .int .i64 k ∧ TabAt wq T a b c { t with o := oAt t.o p s0 s1 s2 k, s := sAt t.s p s0 s1 s2 k } ∧ Away (fun z => z = a ∨ z = b) w wq) (fun i _ => 3 - (intOf i).toNat)
              case atStart => exact ⟨0, by omega, rfl, HTR.out, HMW.out⟩
              case round =>
                obtain ⟨k, hk, rfl, hT3, ha3⟩ := hrel
                have HT3 := Lib.hid hT3
                have HA3 := Lib.hid ha3
                clear hT3 ha3
                by_cases hk3 : k < 3
                · have hk3i : (k : Int) < 3 := by omega
                  have hix := fun w => idx3 s0 s1 s2 k hk3 w
                  have HOS := Lib.hid (oAt_step t.o p s0 s1 s2 k hk3)
                  have HSS := Lib.hid (sAt_step t.s p s0 s1 s2 k hk3)
                  generalize [s0, s1, s2].getD k 0 = y at *
                  have HX := Lib.hid (HT3.out.more (More.alloc wr (.cells #[.int .i64 p, .int .i64 (k : Int)] 74)))
                  have hOB := Lib.hid (blk_new wr (.cells #[.int .i64 p, .int .i64 (k : Int)] 74))
                  have hOlt : a < wr.heap.size := HT3.out.mo.lt
                  have hOlt2 : b < wr.heap.size := HT3.out.ms.lt
                  obtain ⟨w9, hr, hm, hw9, _⟩ := (HX.out.mo.more (More.drewN _ 1)).update keyU32 Try.underlying145 y (p, (k : Int))
                  unfold kO at hr
                  simp only at hr
                  have HX9 := Lib.hid ((HX.out.more (More.drewN _ 1)).putO hw9 hm)
                  have hOB9 := Lib.hid (hw9.blk (blk_drewN hOB.out 1) (by omega))
                  have HW9 := Lib.hid hw9
                  obtain ⟨w8, hr8, hm8, hw8, _⟩ := (HX9.out.ms.more (More.drewN _ 1)).update keyOrg Try.underlying146 (p, (k : Int)) y
                  unfold kO at hr8
                  simp only at hr8
                  have HX8 := Lib.hid ((HX9.out.more (More.drewN _ 1)).putS hw8 hm8)
                  have HW8 := Lib.hid hw8
                  clear hm hw9 hm8 hw8
                  go_wp2_with fail
                  have L0 : ∀ z : Later (wr.alloc (.cells #[.int .i64 p, .int .i64 (k : Int)] 74)), z.w'.cell? ⟨T, 0, none⟩ = some (.map (some a)) := fun z => blk_cell (blk_more z.h HX.out.blk) 0 rfl
                  have L1 : ∀ z : Later (wr.alloc (.cells #[.int .i64 p, .int .i64 (k : Int)] 74)), z.w'.cell? ⟨wr.heap.size, 0, none⟩ = some (.int .i64 p) := fun z => z.new 0 rfl
                  have L2 : ∀ z : Later (wr.alloc (.cells #[.int .i64 p, .int .i64 (k : Int)] 74)), z.w'.cell? ⟨wr.heap.size, 1, none⟩ = some (.int .i64 (k : Int)) := fun z => z.new 1 rfl
                  refine wp_region_num (wr.alloc (.cells #[.int .i64 p, .int .i64 (k : Int)] 74)) 6 [(0, false), (1, false), (2, false), (3, false), (4, false), (5, false), (6, true)] (by kernel_rfl) (by kernel_rfl) ?_
                  iterate 6 (refine num_quiet rfl rfl (later_mk (by repeat (first | exact More.refl _ | assumption | refine More.dr ?_ _ | refine More.al ?_ _ | refine More.st ?_ (by simp) _))) ?_; intro K hK; go_big_quiet_op; go_big_quiet_on)
                  (refine num_end rfl rfl (by decide) ?_; intro K hK; unfold loud; go_simp)
                  refine hK _ _ ?_
                  clear hK K
                  refine num_nil ?_
                  clear L0 L1 L2 hr
                  go_wp2_with fail
                  have L0 : ∀ z : Later w9, z.w'.cell? ⟨T, 1, none⟩ = some (.map (some b)) := fun z => blk_cell (blk_more z.h HX9.out.blk) 1 rfl
                  have L1 : ∀ z : Later w9, z.w'.cell? ⟨wr.heap.size, 0, none⟩ = some (.int .i64 p) := fun z => blk_cell (blk_more z.h hOB9.out) 0 rfl
                  have L2 : ∀ z : Later w9, z.w'.cell? ⟨wr.heap.size, 1, none⟩ = some (.int .i64 (k : Int)) := fun z => blk_cell (blk_more z.h hOB9.out) 1 rfl
                  refine wp_region_num w9 6 [(0, false), (1, false), (2, false), (3, false), (4, false), (5, false), (6, true)] (by kernel_rfl) (by kernel_rfl) ?_
                  iterate 6 (refine num_quiet rfl rfl (later_mk (by repeat (first | exact More.refl _ | assumption | refine More.dr ?_ _ | refine More.al ?_ _ | refine More.st ?_ (by simp) _))) ?_; intro K hK; go_big_quiet_op; go_big_quiet_on)
                  (refine num_end rfl rfl (by decide) ?_; intro K hK; unfold loud; go_simp)
                  refine hK _ _ ?_
                  clear hK K
                  refine num_nil ?_
                  clear L0 L1 L2 hr8
                  go_wp2
                  go_roundw
                  case rel =>
                    have h1 : TabAt w8 T a b c { t with o := oAt t.o p s0 s1 s2 (k + 1), s := sAt t.s p s0 s1 s2 (k + 1) } := by rw [HOS.out, HSS.out]; exact HX8.out
                    have h2 := (((HA3.out.trans (Away.of_more ((More.alloc _ _).dr 1))).trans (HW9.out.mono (fun z hz => Or.inl hz))).trans (Away.of_more (More.drewN _ 1))).trans (HW8.out.mono (fun z hz => Or.inr hz))
                    first
                      | exact ⟨k + 1, by omega, by go_num, h1, h2⟩
                      | (repeat apply Exists.intro
                         exact ⟨⟨k + 1, by omega, by go_num, h1, h2⟩, rfl⟩)
                  case measure => simp [intOf]; omega
                · obtain rfl : k = 3 := by omega
                  go_wp2
                  go_ret
                  unfold PubPost
                  rw [HE1.out]
                  exact ⟨rfl, HT3.out, HA3.out⟩
  · have HP := Lib.hid hp
    have HT := Lib.hid h
    have e1 : pubT t p s0 s1 s2 = (t, 1) := by unfold pubT; rw [if_neg hp]
    have HE1 := Lib.hid e1
    clear hp h e1
    go_enter Try.func77, Try.ntmps77
    go_wp2_with (go_at_call 104; ((with_reducible refine (MayPub_no p _ HP.out).mono ?_); rintro e w2 ⟨rfl, rfl⟩))
    go_ret
    unfold PubPost
    rw [HE1.out]
    exact ⟨rfl, HT.out.more (More.alloc _ _), Away.of_more (More.alloc _ _)⟩
end Go.Proofs.Ytmhkjamibcdcdaa
