/- Package jitter: New, Pop. -/
import Derived.Test.YtlnikmcimmnbmaaJitL
namespace Go.Proofs.Ytlnikmcimmnbmaa
set_option linter.unusedSimpArgs false
set_option linter.unusedVariables false
open Go.RowKit Go.Lib
set_option maxRecDepth 100000

/-- Pop: the buffer behind it, and what comes out. -/
def popJ (b : Jb) (now : Int) : Jb × Int × Int × Bool := match b.holds with
  | [] => (b, 0, 0, false)
  | h :: _ => if readyJ b now then (leastJ b, h.1, h.2.2, true) else (b, 0, 0, false)
set_option maxHeartbeats 2000000 in
theorem Pop_any (b : Jb) (ok : JOK b) (R : Nat) (v : Value) (now : Int) (hn : Num60 now) (w : World) (H : BufAt w R v b) :
    Calls Try.prog 57 #[.pointer (some ⟨R, 0, none⟩), .int .i64 now] w fun e w' => e = .returned (.tuple #[.int .i64 (popJ b now).2.1, .int .i64 (popJ b now).2.2.1, .bool (popJ b now).2.2.2]) ∧ ∃ v', BStep w w' R v v' (popJ b now).1 := by
  have HH := Lib.hid H
  have HRD := Lib.hid (Ready_any b ok R v now hn w H)
  cases hr : readyJ b now with
  | false =>
    have hp : popJ b now = (b, 0, 0, false) := by
      unfold popJ
      cases b.holds with
      | nil => rfl
      | cons h T => simp only [hr]; rfl
    rw [hp]
    have HR := Lib.hid hr
    clear hp hr H
    go_enter Try.func57, Try.ntmps57
    go_wp2_with (go_at_call 56; ((with_reducible refine (HRD.out).mono ?_); rintro e w1 ⟨rfl, m1⟩; rw [HR.out]; have M1 := Lib.hid m1; clear m1))
    refine bodyPost_ret (v := .tuple #[.int .i64 0, .int .i64 0, .bool false]) (by simp [results, Try.results57, go_sem]) rfl ?_
    exact ⟨rfl, v, BStep.keep M1.out (HH.out.on M1.out)⟩
  | true =>
    obtain ⟨h, T, hb⟩ : ∃ h T, b.holds = h :: T := by
      cases hb : b.holds with
      | nil => unfold readyJ at hr; rw [hb] at hr; cases hr
      | cons h T => exact ⟨h, T, rfl⟩
    have hp : popJ b now = (leastJ b, h.1, h.2.2, true) := by
      unfold popJ
      rw [hb]
      simp only [hr]
      rfl
    rw [hp]
    have HR := Lib.hid hr
    have HB := Lib.hid hb
    clear hp hr H hb
    go_enter Try.func57, Try.ntmps57
    go_wp2_with (first | (go_at_call 56; ((with_reducible refine (HRD.out).mono ?_); rintro e w1 ⟨rfl, m1⟩; rw [HR.out]; have M1 := Lib.hid m1; have H1 := Lib.hid (HH.out.on m1); clear m1)) | (go_at_call 122; ((with_reducible refine (Least_any b h T HB.out ok R v _ H1.out).mono ?_); rintro e w2 ⟨rfl, v2, st⟩; have ST := Lib.hid st; clear st)))
    obtain ⟨W, hW⟩ : ∃ W, W = w2.alloc (.cells #[.int .i64 h.1, .int .i64 h.2.1, .int .i64 h.2.2] 193) := ⟨_, rfl⟩
    have nb : W.heap[w2.heap.size]? = some (.cells #[.int .i64 h.1, .int .i64 h.2.1, .int .i64 h.2.2] 193 (0, 0)) := by rw [hW]; exact blk_new w2 _
    have mw : More w2 W := by rw [hW]; exact More.alloc w2 _
    have c0 : ∀ x : Later W, x.w'.cell? ⟨w2.heap.size, 0, none⟩ = some (.int .i64 h.1) := fun x => blk_cell (blk_more x.h nb) 0 rfl
    have c2 : ∀ x : Later W, x.w'.cell? ⟨w2.heap.size, 2, none⟩ = some (.int .i64 h.2.2) := fun x => blk_cell (blk_more x.h nb) 2 rfl
    have MW := Lib.hid mw
    rw [← hW]
    clear hW nb mw
    generalize w2.heap.size = BX at *
    refine wp_region_later W (More.refl _) (by kernel_rfl) (by kernel_rfl) ?_
    repeat (go_big_quiet_step (fail))
    refine wpQuiet_nil ?_
    intro _ hw'
    obtain ⟨x9, rfl⟩ := hw'
    go_wp2
    refine bodyPost_ret (v := .tuple #[.int .i64 h.1, .int .i64 h.2.2, .bool true]) (by simp [results, Try.results57, go_sem]) rfl ?_
    have m := MW.out.trans x9.h
    refine ⟨rfl, v2, ST.out.buf.on m, ?_, ?_⟩
    · exact Away.old M1.out (ST.out.away.more m) fun k hk => Or.inl hk
    · exact ST.out.own.elim Or.inl fun ⟨g, a, c⟩ => Or.inr ⟨g, a, Nat.le_trans M1.out.size c⟩
def newOK (room wait : Int) : Prop := 1 ≤ room ∧ room ≤ 8 ∧ 0 ≤ wait ∧ wait ≤ 1000
instance (r w : Int) : Decidable (newOK r w) := by unfold newOK; infer_instance
def newJ (room wait : Int) : Jb := ⟨room, wait, [], false, 0, 0⟩
theorem newJ_ok {room wait : Int} (h : newOK room wait) : JOK (newJ room wait) :=
  ⟨⟨h.1, h.2.1⟩, ⟨h.2.2.1, h.2.2.2⟩, (by show ((0 : Nat) : Int) ≤ room; have := h.1; omega), fun k hk => (by cases hk), List.Pairwise.nil, (show Num60 0 from ⟨by decide, by decide⟩), (show U64 0 from ⟨by decide, by decide⟩), fun e => (by cases e)⟩
theorem New_no (room wait : Int) (w : World) (h : ¬ newOK room wait) :
    Calls Try.prog 53 #[.int .i64 room, .int .i64 wait] w fun e w' => e = .returned (.tuple #[.pointer none, .int .i64 1]) ∧ w = w' := by
  by_cases h1 : room < 1
  · clear h
    go_enter Try.func53, Try.ntmps53
    go_wp2
    go_ret2
    exact ⟨rfl, rfl⟩
  · by_cases h2 : 8 < room
    · clear h
      go_enter Try.func53, Try.ntmps53
      go_wp2
      go_ret2
      exact ⟨rfl, rfl⟩
    · by_cases h3 : wait < 0
      · clear h
        go_enter Try.func53, Try.ntmps53
        go_wp2
        go_ret2
        exact ⟨rfl, rfl⟩
      · have h4 : 1000 < wait := by unfold newOK at h; omega
        clear h
        go_enter Try.func53, Try.ntmps53
        go_wp2
        go_ret2
        exact ⟨rfl, rfl⟩
theorem New_yes (room wait : Int) (w : World) (h : newOK room wait) :
    Calls Try.prog 53 #[.int .i64 room, .int .i64 wait] w fun e w' => e = .returned (.tuple #[.pointer (some ⟨w.heap.size, 0, none⟩), .int .i64 0]) ∧ BufAt w' w.heap.size (.slice none 0 0) (newJ room wait) ∧ More w w' ∧ w.heap.size < w'.heap.size := by
  obtain ⟨h1, h2, h3, h4⟩ := h
  have h1' : ¬ room < 1 := by omega
  have h2' : ¬ 8 < room := by omega
  have h3' : ¬ wait < 0 := by omega
  have h4' : ¬ 1000 < wait := by omega
  clear h1 h2 h3 h4
  go_enter Try.func53, Try.ntmps53
  go_wp2
  go_ret2
  exact ⟨rfl, ⟨blk_new w _, World.ownsRow_nil _ _ _ _⟩, More.alloc w _, by simp⟩
end Go.Proofs.Ytlnikmcimmnbmaa
