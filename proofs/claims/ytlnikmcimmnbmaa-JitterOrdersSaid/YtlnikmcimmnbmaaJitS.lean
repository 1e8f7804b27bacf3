/- The law JitterRises, walked. -/
import Derived.Test.YtlnikmcimmnbmaaJitR
import Derived.Test.YtlnikmcimmnbmaaMapB
namespace Go.Proofs.Ytlnikmcimmnbmaa
set_option linter.unusedSimpArgs false
set_option linter.unusedVariables false
open Go.RowKit Go.Lib
set_option maxRecDepth 100000

theorem least_hi {b : Jb} (ok : JOK b) {h : Hd} {T : List Hd} (hb : b.holds = h :: T) : (leastJ b).begun = true ∧ (leastJ b).hi = h.1 ∧ (leastJ b).holds = T := by
  have e : leastJ b = { b with holds := T, begun := true, hi := (winJ b h.1).1, bits := (winJ b h.1).2 } := by unfold leastJ; rw [hb]
  rw [e]
  refine ⟨rfl, ?_, rfl⟩
  show (winJ b h.1).1 = h.1
  unfold winJ
  split
  · rename_i hbg
    rw [mark_high]
    have := ok.over hbg h (by rw [hb]; exact List.mem_cons_self)
    omega
  · rfl
theorem pop_no {b : Jb} {t : Int} (h : readyJ b t = false) : popJ b t = (b, 0, 0, false) := by
  unfold popJ
  cases b.holds with
  | nil => rfl
  | cons k T => simp only [h]; rfl
theorem pop_yes {b : Jb} {t : Int} (h : readyJ b t = true) : ∃ k T, b.holds = k :: T ∧ popJ b t = (leastJ b, k.1, k.2.2, true) := by
  cases hb : b.holds with
  | nil => unfold readyJ at h; rw [hb] at h; cases h
  | cons k T =>
    refine ⟨k, T, rfl, ?_⟩
    unfold popJ
    rw [hb]
    simp only [h]
    rfl
theorem keyI64' : KeyOK Try.prog 2 (Value.int .i64) := keyInt Try.underlying2
theorem zero_i64' (w : World) : (zeroValue 3).run Try.prog w = .ok (.int .i64 0) w := by kernel_rfl
theorem mget_put_other {K V : Type} [DecidableEq K] {k j : K} {u : V} (h : ¬ j = k) : ∀ L : List (K × V), mget (mput L k u) j = mget L j
  | [] => by simp [mput, mget, h]
  | (a, b) :: L => by
    unfold mput
    split
    · rename_i e
      subst e
      simp [mget, h]
    · simp only [mget]
      split
      · rfl
      · exact mget_put_other h L
theorem mget_put_same {K V : Type} [DecidableEq K] {k : K} {u : V} : ∀ L : List (K × V), mget (mput L k u) k = some u
  | [] => by simp [mput, mget]
  | (a, b) :: L => by
    unfold mput
    split
    · simp [mget]
    · rename_i e
      simp only [mget, if_neg e]
      exact mget_put_same L
def lastJ (b : Jb) : Int := if b.begun then b.hi else -1
/-- The law's loop. -/
structure Rs12 (w0 w : World) (R MB : Nat) (v : Value) (b : Jb) (L : List (Int × Int)) (room : Int) : Prop where
  run : Run12 w0 w R v b
  map : MapAt w MB (Value.int .i64) (Value.int .i64) L
  new : w0.heap.size ≤ MB
  ne : MB ≠ R
  nv : v.ownBlock ≠ some MB
  room : b.room = room
  has : ∀ h ∈ b.holds, mget L h.1 = some h.2.2
theorem Rs12.on {w0 w w' : World} {R MB : Nat} {v : Value} {b : Jb} {L : List (Int × Int)} {room : Int} (h : Rs12 w0 w R MB v b L room) (m : More w w') : Rs12 w0 w' R MB v b L room :=
  ⟨h.run.on m, h.map.more m, h.new, h.ne, h.nv, h.room, h.has⟩
theorem Rs12.stepM {w0 w w' : World} {R MB : Nat} {v v' : Value} {b b' : Jb} {L : List (Int × Int)} {room : Int} (h : Rs12 w0 w R MB v b L room) (st : BStep w w' R v v' b') : MapAt w' MB (Value.int .i64) (Value.int .i64) L ∧ v'.ownBlock ≠ some MB :=
  ⟨h.map.away st.away (fun x => x.elim h.ne h.nv), fun e => by
    rcases st.own with o | ⟨g, o, hg⟩
    · exact h.nv (by rw [← o]; exact e)
    · rw [o] at e; injection e with e; have := h.map.lt; omega⟩
theorem Rs12.step {w0 w w' : World} {R MB : Nat} {v v' : Value} {b b' : Jb} {L : List (Int × Int)} {room : Int} (h : Rs12 w0 w R MB v b L room) (ok : JOK b') (st : BStep w w' R v v' b') (hr : b'.room = b.room) (has : ∀ h ∈ b'.holds, mget L h.1 = some h.2.2) : Rs12 w0 w' R MB v' b' L room :=
  ⟨h.run.step ok st, (h.stepM st).1, h.new, h.ne, (h.stepM st).2, hr.trans h.room, has⟩
theorem Rs12.put {w0 w w1 w' : World} {R MB : Nat} {v v' : Value} {b : Jb} {L : List (Int × Int)} {room n t x : Int} (h : Rs12 w0 w R MB v b L room) (ok : JOK (pushJ b n t x).1) (st : BStep w w1 R v v' (pushJ b n t x).1) (hp : pushJ b n t x = ({ b with holds := insJ b.holds (n, t, x) }, 0)) (hs : sameJ b n = false)
    (hm : MapAt w' MB (Value.int .i64) (Value.int .i64) (mput L n x)) (a : Away (fun y => y = MB) w1 w') : Rs12 w0 w' R MB v' (pushJ b n t x).1 (mput L n x) room := by
  have hr := h.run.step ok st
  have hv := (h.stepM st).2
  refine ⟨⟨⟨a.blk hr.buf.blk (fun e => h.ne e.symm), hr.buf.row.away a (fun k hk e => hv (by rw [← e]; exact hk))⟩, ok, Away.to_more hr.more a (fun k hk => by rw [hk]; exact h.new), hr.new, hr.own⟩, hm, h.new, h.ne, hv, (push_same b n t x).1.trans h.room, ?_⟩
  rw [hp]
  intro k hk
  rcases (insJ_mem _ _ k).1 hk with rfl | hk
  · exact mget_put_same L
  · rw [mget_put_other ((sameJ_iff b n).1 hs k hk)]
    exact h.has k hk
theorem lastJ_lt {b : Jb} (ok : JOK b) : -1 ≤ lastJ b ∧ ∀ h ∈ b.holds, lastJ b < h.1 := by
  unfold lastJ
  cases hb : b.begun with
  | true => exact ⟨by have := ok.hi.1; simp; omega, fun h hh => by simpa using ok.over hb h hh⟩
  | false => exact ⟨by simp, fun h hh => by have := (ok.nums h hh).1.1; simp; omega⟩

theorem lastJ_push {b : Jb} {n : Int} (h : b.begun = true → b.hi < n) (h0 : 0 ≤ n) : ¬ n ≤ lastJ b := by
  unfold lastJ
  cases hb : b.begun with
  | true => have := h hb; simp; omega
  | false => simp; omega

theorem JR_no (room wait : Int) (v : Value) (w : World) (h : ¬ newOK room wait) :
    Calls Try.prog 10 #[.int .i64 room, .int .i64 wait, v] w fun e w' => e = .returned (.bool true) ∧ More w w' := by
  have HN := Lib.hid (fun w => New_no room wait w h)
  clear h
  go_enter Try.func10, Try.ntmps10
  go_wp2_with (first | (go_at_call 52; ((with_reducible refine (awake12 _).mono ?_); rintro e w1 ⟨rfl, m1⟩; have M1 := Lib.hid m1; clear m1)) | (go_at_call 53; ((with_reducible refine (HN.out w1).mono ?_); rintro e w2 ⟨rfl, rfl⟩)))
  go_ret
  exact ⟨rfl, M1.out⟩
theorem JR_guard (room wait : Int) (oa : Option Addr) (N cap : Nat) (w : World) (h : newOK room wait) (hx : 200 < N) :
    Calls Try.prog 10 #[.int .i64 room, .int .i64 wait, .slice oa N cap] w fun e w' => e = .returned (.bool true) ∧ More w w' := by
  have HN := Lib.hid (fun w => New_yes room wait w h)
  clear h
  have h1' : (200 : Int) < (N : Int) := by omega
  clear hx
  go_enter Try.func10, Try.ntmps10
  go_wp2_with (first | (go_at_call 52; ((with_reducible refine (awake12 _).mono ?_); rintro e w1 ⟨rfl, m1⟩; have M1 := Lib.hid m1; clear m1)) | (go_at_call 53; ((with_reducible refine (HN.out w1).mono ?_); rintro e w2 ⟨rfl, _, m2, _⟩; have M2 := Lib.hid (M1.out.trans m2); clear m2)))
  go_ret
  exact ⟨rfl, M2.out⟩

set_option maxHeartbeats 8000000 in
theorem JR_main (room wait : Int) (l : List Act12) (v : Value) (w : World) (sl : SlP 4 RAct12 w v l) (h : newOK room wait) (h1 : l.length ≤ 200) :
    Calls Try.prog 10 #[.int .i64 room, .int .i64 wait, v] w fun e w' => e = .returned (.bool true) ∧ More w w' := by
  have HN := Lib.hid (fun w => New_yes room wait w h)
  have HOK := Lib.hid h
  obtain ⟨oa, cap, rfl, hl63, hel⟩ := act12 sl
  have HEL := Lib.hid hel
  obtain ⟨hr1, hr8, hw0, hw1⟩ := h
  have h1' : decide ((200 : Int) < (l.length : Int)) = false := decide_eq_false (by omega)
  clear sl hel
  have hmm := @run_makeMap Try.prog
  go_enter Try.func10, Try.ntmps10
  go_wp2_with (first | (go_at_call 52; ((with_reducible refine (awake12 _).mono ?_); rintro e w1 ⟨rfl, m1⟩; have M1 := Lib.hid m1; clear m1)) | (go_at_call 53; ((with_reducible refine (HN.out w1).mono ?_); rintro e w2 ⟨rfl, b2, m2, hz2⟩; have RU := Lib.hid (Run12.start b2 HOK.out (M1.out.trans m2) M1.out.size); have HZ2 := Lib.hid (show w1.heap.size < w2.heap.size from hz2); clear m2 b2 hz2)))
  have RS0 : Hid (Rs12 w (w2.alloc (.map #[] 0)) w1.heap.size w2.heap.size (.slice none 0 0) (newJ room wait) [] room) := Lib.hid ⟨RU.out.on (More.alloc _ _), MapAt.made _ _ _, RU.out.more.size, fun e => by have := HZ2.out; omega, fun e => (by cases e), rfl, fun k hk => (by cases hk)⟩
  clear hmm
  generalize w1.heap.size = R at *
  generalize w2.heap.size = MB at *
  go_loopw [10, 11, 12, 39] (fun s10 s11 s12 ix wr => ∃ (j g : Nat) (v' : Value) (b : Jb) (L : List (Int × Int)) (m : Nat), j ≤ l.length ∧ ix = .int .i64 j ∧ Rs12 w wr R MB v' b L room ∧ s10 = .int .i64 (lastJ b) ∧ b.holds.length = m ∧ g + m ≤ j ∧ s11 = .int .i64 (g + m) ∧ s12 = .int .i64 g) (fun _ _ _ ix _ => l.length - (intOf ix).toNat)
  case atStart => exact ⟨0, 0, _, _, [], 0, by omega, rfl, RS0.out, rfl, rfl, by omega, rfl, rfl⟩
  case round =>
    obtain ⟨j, g, v', b, L, m, hj, rfl, hrs, rfl, hm, hgm, rfl, rfl⟩ := hrel
    have RR := Lib.hid hrs
    have hRl := lt_of_block hrs.run.buf.blk
    have HML := Lib.hid hrs.map.lt
    have HM := Lib.hid hm
    obtain ⟨hl0, hl1⟩ := lastJ_lt hrs.run.ok
    have HLA := Lib.hid hl1
    have hfit : (m : Int) ≤ room := by have := hrs.run.ok.fits; rw [hm, hrs.room] at this; exact this
    clear hrs hm hl1
    by_cases hlt : j < l.length
    · obtain ⟨xb, off, rfl, hxb, x0, x1, x2, x3⟩ := HEL.out j hlt
      have y0 := (RR.out.run.more.cells xb (off + j * 4) hxb).trans x0
      have y1 := (RR.out.run.more.cells xb (off + j * 4 + 1) hxb).trans x1
      have y2 := (RR.out.run.more.cells xb (off + j * 4 + 2) hxb).trans x2
      have y3 := (RR.out.run.more.cells xb (off + j * 4 + 3) hxb).trans x3
      have hlti : (j : Int) < (l.length : Int) := by omega
      clear x0 x1 x2 x3
      generalize l.getD j (0, 0, 0, 0, ()) = y at *
      obtain ⟨d, n, t, x, u⟩ := y
      simp only at y0 y1 y2 y3
      have HX := Lib.hid (blk_new wr (.cells #[.int .i64 d, .int .i64 n, .int .i64 t, .int .i64 x] 104))
      have R1 := Lib.hid (RR.out.on (More.alloc wr (.cells #[.int .i64 d, .int .i64 n, .int .i64 t, .int .i64 x] 104)))
      have HMN := Lib.hid (fun n w => may12_any n w)
      cases hmn : may60 n with
      | false =>
        have HB := Lib.hid hmn
        clear hmn
        go_wp2_with (go_at_call 54; ((with_reducible refine (HMN.out n _).mono ?_); rintro e w4 ⟨rfl, rfl⟩; rw [HB.out]))
        go_ret
        exact ⟨rfl, R1.out.run.more⟩
      | true =>
        have HB := Lib.hid hmn
        have HNN : Hid (Num60 n) := Lib.hid (of_decide_eq_true hmn)
        clear hmn
        cases hmt : may60 t with
        | false =>
          have HC := Lib.hid hmt
          clear hmt
          go_wp2_with (first | (go_at_call 54; ((with_reducible refine (HMN.out n _).mono ?_); rintro e w4 ⟨rfl, rfl⟩; rw [HB.out])) | (go_at_call 54; ((with_reducible refine (HMN.out t _).mono ?_); rintro e w4 ⟨rfl, rfl⟩; rw [HC.out])))
          go_ret
          exact ⟨rfl, R1.out.run.more⟩
        | true =>
          have HC := Lib.hid hmt
          have HTT : Hid (Num60 t) := Lib.hid (of_decide_eq_true hmt)
          clear hmt
          have hfit' : decide (room < (m : Int)) = false := decide_eq_false (by omega)
          by_cases hd0 : d = 0
          · subst hd0
            rcases push_cases b n t x with ⟨hp, hq⟩ | ⟨hp, hsm, hov, hrm⟩
            · have HP := Lib.hid hp
              generalize hQ : (pushJ b n t x).2 = Q at *
              have HQ := Lib.hid hQ
              have hq' : (Q == 0) = false := beq_eq_false_iff_ne.2 hq
              clear hp hq hQ
              go_wp2_with (first | (go_at_call 54; ((with_reducible refine (HMN.out n _).mono ?_); rintro e w4 ⟨rfl, rfl⟩; rw [HB.out])) | (go_at_call 54; ((with_reducible refine (HMN.out t _).mono ?_); rintro e w4 ⟨rfl, rfl⟩; rw [HC.out])) | (go_at_call 55; ((with_reducible refine (Push_any b RR.out.run.ok _ _ n t x HNN.out _ R1.out.run.buf).mono ?_); rintro e w5 ⟨rfl, v5, s5⟩; rw [HQ.out]; rw [HP.out] at s5; have R5 := Lib.hid (R1.out.step RR.out.run.ok s5 rfl RR.out.has); have z0 := blk_cell (s5.away.blk HX.out (fun hk => hk.elim (fun e => by omega) (fun e => by have := (RR.out.run.buf.row.own_ge e).2; omega))) 0 rfl; clear s5)) | (go_at_call 58; ((with_reducible refine (Len_any b _ _ w5 R5.out.run.buf).mono ?_); rintro e w6 ⟨rfl, rfl⟩; rw [HM.out])))
              go_roundw
              case measure => simp [intOf]; omega
              case rel => exact ⟨j + 1, g, v5, b, L, m, by omega, by go_num, R5.out, rfl, HM.out, by omega, rfl, rfl⟩
            · have HP := Lib.hid hp
              have HLL : Hid ((pushJ b n t x).1.holds.length = m + 1) := Lib.hid (by rw [hp]; show (insJ b.holds (n, t, x)).length = m + 1; rw [insJ_len, HM.out])
              have HLB : Hid (lastJ (pushJ b n t x).1 = lastJ b) := Lib.hid (by rw [hp]; rfl)
              have hrm' : (m : Int) < room := by rw [HM.out, RR.out.room] at hrm; exact hrm
              have hf2 : decide (room < (m : Int) + 1) = false := decide_eq_false (by omega)
              have hf3 : ((m : Int) + 1 != (g : Int) + m + 1 - g) = false := by simp; omega
              have hnl : decide (n ≤ lastJ b) = false := decide_eq_false (lastJ_push hov HNN.out.1)
              have HSM := Lib.hid hsm
              clear hp hsm hov hrm
              go_wp2_with (first | (go_at_call 54; ((with_reducible refine (HMN.out n _).mono ?_); rintro e w4 ⟨rfl, rfl⟩; rw [HB.out])) | (go_at_call 54; ((with_reducible refine (HMN.out t _).mono ?_); rintro e w4 ⟨rfl, rfl⟩; rw [HC.out])) | (go_at_call 55; ((with_reducible refine (Push_any b RR.out.run.ok _ _ n t x HNN.out _ R1.out.run.buf).mono ?_); rintro e w5 ⟨rfl, v5, s5⟩; rw [show (pushJ b n t x).2 = 0 from by rw [HP.out]]; have S5 := Lib.hid s5; have X5 := Lib.hid (s5.away.blk HX.out (fun hk => hk.elim (fun e => by omega) (fun e => by have := (RR.out.run.buf.row.own_ge e).2; omega))); have z1 := blk_cell X5.out 1 rfl; have z3 := blk_cell X5.out 3 rfl; obtain ⟨w9, hr9, hm9, ha9, hs9⟩ := (R1.out.stepM s5).1.update keyI64' Try.underlying102 n x; have R9 := Lib.hid (R1.out.put (push_ok RR.out.run.ok HNN.out HTT.out) s5 HP.out HSM.out hm9 ha9); have X9 := Lib.hid (ha9.blk X5.out (fun e => by have := HML.out; omega)); have q1 := blk_cell X9.out 1 rfl; have q0 := blk_cell X9.out 0 rfl; clear s5 hm9 ha9 hs9)) | (go_at_call 58; ((with_reducible refine (Len_any (pushJ b n t x).1 _ _ w9 R9.out.run.buf).mono ?_); rintro e w6 ⟨rfl, rfl⟩; rw [HLL.out])))
              go_roundw
              case measure => simp [intOf]; omega
              case rel => exact ⟨j + 1, g, v5, _, mput L n x, m + 1, by omega, by go_num, R9.out, by rw [HLB.out], HLL.out, by omega, by go_num, rfl⟩
          · by_cases hd1 : d = 1
            · subst hd1
              cases hrd : readyJ b t with
              | false =>
                have HRD := Lib.hid hrd
                have HP := Lib.hid (pop_no hrd)
                clear hrd
                go_wp2_with (first | (go_at_call 54; ((with_reducible refine (HMN.out n _).mono ?_); rintro e w4 ⟨rfl, rfl⟩; rw [HB.out])) | (go_at_call 54; ((with_reducible refine (HMN.out t _).mono ?_); rintro e w4 ⟨rfl, rfl⟩; rw [HC.out])) | (go_at_call 56; ((with_reducible refine (Ready_any b RR.out.run.ok _ _ t HTT.out _ R1.out.run.buf).mono ?_); rintro e w5 ⟨rfl, m5⟩; rw [HRD.out]; have R5 := Lib.hid (R1.out.on m5); have z2 := blk_cell (blk_more m5 HX.out) 2 rfl; clear m5)) | (go_at_call 57; ((with_reducible refine (Pop_any b RR.out.run.ok _ _ t HTT.out _ R5.out.run.buf).mono ?_); rintro e w6 ⟨rfl, v6, s6⟩; rw [HP.out] at s6 ⊢; have R6 := Lib.hid (R5.out.step RR.out.run.ok s6 rfl RR.out.has); clear s6)) | (go_at_call 58; ((with_reducible refine (Len_any b _ _ w6 R6.out.run.buf).mono ?_); rintro e w7 ⟨rfl, rfl⟩; rw [HM.out])))
                go_roundw
                case measure => simp [intOf]; omega
                case rel => exact ⟨j + 1, g, v6, b, L, m, by omega, by go_num, R6.out, rfl, HM.out, by omega, rfl, rfl⟩
              | true =>
                obtain ⟨k, T, hb, hp⟩ := pop_yes hrd
                have HRD := Lib.hid hrd
                have HP := Lib.hid hp
                obtain ⟨k0, kT, m', rfl⟩ : ∃ (k0 : List Hd) (kT : List Hd) (m' : Nat), m = m' + 1 := ⟨[], [], T.length, by rw [← HM.out, hb]; rfl⟩
                have hTl : T.length = m' := by have := HM.out; rw [hb, List.length_cons] at this; omega
                obtain ⟨lb, lh, lH⟩ := least_hi RR.out.run.ok hb
                have HLL : Hid ((leastJ b).holds.length = m') := Lib.hid (by rw [lH, hTl])
                have HLB : Hid (lastJ (leastJ b) = k.1) := Lib.hid (by unfold lastJ; rw [lb, lh]; rfl)
                have HOK2 := Lib.hid (least_ok RR.out.run.ok hb)
                have HAS2 : Hid (∀ h ∈ (leastJ b).holds, mget L h.1 = some h.2.2) := Lib.hid fun h hh => RR.out.has h (by rw [lH] at hh; rw [hb]; exact List.mem_cons_of_mem _ hh)
                have HGET : Hid (mget L k.1 = some k.2.2) := Lib.hid (RR.out.has k (by rw [hb]; exact List.mem_cons_self))
                have hnl : decide (k.1 ≤ lastJ b) = false := decide_eq_false (by have := HLA.out k (by rw [hb]; exact List.mem_cons_self); omega)
                have hf2 : decide (room < (m' : Int)) = false := decide_eq_false (by omega)
                have hf3 : ((m' : Int) != (g : Int) + ((m' : Int) + 1) - ((g : Int) + 1)) = false := by simp; omega
                clear hrd hb hp hTl lb lh lH
                obtain ⟨kn, ks, kt⟩ := k
                simp only at HP HGET hnl HLB
                go_wp2_with (first | (go_at_call 54; ((with_reducible refine (HMN.out n _).mono ?_); rintro e w4 ⟨rfl, rfl⟩; rw [HB.out])) | (go_at_call 54; ((with_reducible refine (HMN.out t _).mono ?_); rintro e w4 ⟨rfl, rfl⟩; rw [HC.out])) | (go_at_call 56; ((with_reducible refine (Ready_any b RR.out.run.ok _ _ t HTT.out _ R1.out.run.buf).mono ?_); rintro e w5 ⟨rfl, m5⟩; rw [HRD.out]; have R5 := Lib.hid (R1.out.on m5); have z2 := blk_cell (blk_more m5 HX.out) 2 rfl; clear m5)) | (go_at_call 57; ((with_reducible refine (Pop_any b RR.out.run.ok _ _ t HTT.out _ R5.out.run.buf).mono ?_); rintro e w6 ⟨rfl, v6, s6⟩; rw [HP.out] at s6 ⊢; have R6 := Lib.hid (R5.out.step HOK2.out s6 (least_same b).1 HAS2.out); have q6 := R6.out.map.look keyI64' Try.underlying102 (zero_i64' w6) kn true; rw [HGET.out] at q6; simp only [Option.map_some, Option.getD_some, Option.isSome_some, if_true] at q6; clear s6)) | (go_at_call 58; ((with_reducible refine (Len_any (leastJ b) _ _ w6 R6.out.run.buf).mono ?_); rintro e w7 ⟨rfl, rfl⟩; rw [HLL.out])))
                go_roundw
                case measure => simp [intOf]; omega
                case rel => exact ⟨j + 1, g + 1, v6, leastJ b, L, m', by omega, by go_num, R6.out, by rw [HLB.out], HLL.out, by omega, by go_num, by go_num⟩
            · have q0 : (d == 0) = false := beq_eq_false_iff_ne.2 hd0
              have q1 : (d == 1) = false := beq_eq_false_iff_ne.2 hd1
              clear hd0 hd1
              go_wp2_with (first | (go_at_call 54; ((with_reducible refine (HMN.out n _).mono ?_); rintro e w4 ⟨rfl, rfl⟩; rw [HB.out])) | (go_at_call 54; ((with_reducible refine (HMN.out t _).mono ?_); rintro e w4 ⟨rfl, rfl⟩; rw [HC.out])) | (go_at_call 58; ((with_reducible refine (Len_any b _ _ _ R1.out.run.buf).mono ?_); rintro e w7 ⟨rfl, rfl⟩; rw [HM.out])))
              go_roundw
              case measure => simp [intOf]; omega
              case rel => exact ⟨j + 1, g, v', b, L, m, by omega, by go_num, R1.out, rfl, HM.out, by omega, rfl, rfl⟩
    · have hlti : ¬ (j : Int) < (l.length : Int) := by omega
      go_wp2_with fail
      go_ret
      exact ⟨rfl, RR.out.run.more⟩
theorem JitterRises_law (room wait : Int) (v : Value) (l : List Act12) (w : World) (_hr : -9223372036854775808 ≤ room ∧ room ≤ 9223372036854775807) (_hw : -9223372036854775808 ≤ wait ∧ wait ≤ 9223372036854775807) (sl : SlP 4 RAct12 w v l) :
    Calls Try.prog 10 #[.int .i64 room, .int .i64 wait, v] w fun e w' => e = .returned (.bool true) ∧ More w w' := by
  by_cases h : newOK room wait
  · by_cases h1 : l.length ≤ 200
    · exact JR_main room wait l v w sl h h1
    · obtain ⟨oa, cap, rfl, _, _⟩ := act12 sl
      exact JR_guard room wait oa l.length cap w h (by omega)
  · exact JR_no room wait v w h
end Go.Proofs.Ytlnikmcimmnbmaa
