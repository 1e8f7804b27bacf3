/- Package jitter: Drain. -/
import Derived.Test.YtlnikmcimmnbmaaJitM
namespace Go.Proofs.Ytlnikmcimmnbmaa
set_option linter.unusedSimpArgs false
set_option linter.unusedVariables false
open Go.RowKit Go.Lib
set_option maxRecDepth 100000

theorem owns_awayJ {w w' : World} {base e size n : Nat} {v : Value} {xs : List Value} {S : Nat → Prop} (h : w.ownsRow base e size v n xs) (a : Away S w w') (hs : ∀ k, v.ownBlock = some k → ¬ S k) : w'.ownsRow base e size v n xs := by
  obtain ⟨h1, h2⟩ := h
  refine ⟨h1, ?_⟩
  rcases h2 with h | ⟨g, cap, cur, e1, hb, hg, rest⟩
  · exact Or.inl h
  · exact Or.inr ⟨g, cap, cur, e1, hb, a.blk hg (hs g (by rw [e1]; rfl)), rest⟩
/-- What Drain's loop holds. -/
structure DrJ (w0 wr : World) (R : Nat) (v0 v : Value) (b : Jb) (v3 : Value) (A : List Int) : Prop where
  buf : BufAt wr R v b
  ok : JOK b
  row : wr.ownsRow w0.heap.size 3 1 v3 A.length (A.map (Value.int .i64))
  away : Away (fun k => k = R ∨ v0.ownBlock = some k) w0 wr
  own : v.ownBlock = v0.ownBlock ∨ ∃ g, v.ownBlock = some g ∧ w0.heap.size ≤ g
  sep : ∀ k, v3.ownBlock = some k → v.ownBlock ≠ some k
theorem DrJ.step {w0 wr w' : World} {R : Nat} {v0 v v3 v' : Value} {b : Jb} {A : List Int} {h : Hd} {T : List Hd} (d : DrJ w0 wr R v0 v b v3 A) (hR : R < w0.heap.size) (hb : b.holds = h :: T) (st : BStep wr w' R v v' (leastJ b)) : DrJ w0 w' R v0 v' (leastJ b) v3 A := by
  have hge : ∀ k, v3.ownBlock = some k → w0.heap.size ≤ k ∧ k < wr.heap.size := fun k hk => by
    rcases d.row.2 with ⟨rfl, _⟩ | ⟨g, cap, cur, rfl, hb, hg, _⟩
    · cases hk
    · obtain rfl : g = k := by injection hk
      exact ⟨hb, lt_of_block hg⟩
  refine ⟨st.buf, least_ok d.ok hb, owns_awayJ d.row st.away fun k hk x => ?_, ?_, ?_, fun k hk e => ?_⟩
  · rcases x with x | x
    · have := (hge k hk).1; omega
    · exact d.sep k hk x
  · have a : Away (fun k => (k = R ∨ v0.ownBlock = some k) ∨ w0.heap.size ≤ k) w0 w' := (d.away.mono fun k hk => Or.inl hk).trans (st.away.mono fun k hk => by
      rcases hk with hk | hk
      · exact Or.inl (Or.inl hk)
      · rcases d.own with e | ⟨g, e, hg⟩
        · exact Or.inl (Or.inr (by rw [← e]; exact hk))
        · rw [e] at hk
          injection hk with hk
          exact Or.inr (by omega))
    exact Away.old (More.refl w0) a fun k hk => hk
  · rcases st.own with e | ⟨g, e, hg⟩
    · rw [e]; exact d.own
    · exact Or.inr ⟨g, e, Nat.le_trans d.away.size hg⟩
  · rcases st.own with e2 | ⟨g, e2, hg⟩
    · rw [e2] at e; exact d.sep k hk e
    · rw [e2] at e
      injection e with e
      have := (hge k hk).2
      omega
theorem DrJ.on {w0 wr w' : World} {R : Nat} {v0 v v3 : Value} {b : Jb} {A : List Int} (d : DrJ w0 wr R v0 v b v3 A) (m : More wr w') : DrJ w0 w' R v0 v b v3 A :=
  ⟨d.buf.on m, d.ok, owns_more d.row m, d.away.more m, d.own, d.sep⟩
theorem DrJ.put {w0 wr w' : World} {R : Nat} {v0 v v3 v3' : Value} {b : Jb} {A A' : List Int} (d : DrJ w0 wr R v0 v b v3 A) (hR : R < w0.heap.size) (ho : w'.ownsRow w0.heap.size 3 1 v3' A'.length (A'.map (Value.int .i64))) (hg : wr.grownBy w' v3.ownBlock) (hown : v3'.ownBlock = v3.ownBlock ∨ v3'.ownBlock = some wr.heap.size) : DrJ w0 w' R v0 v b v3' A' := by
  have hge : ∀ k, v3.ownBlock = some k → w0.heap.size ≤ k := fun k hk => by
    rcases d.row.2 with ⟨rfl, _⟩ | ⟨g, cap, cur, rfl, hb, hg, _⟩
    · cases hk
    · obtain rfl : g = k := by injection hk
      exact hb
  have a : Away (fun k => v3.ownBlock = some k) wr w' := ⟨hg.os, hg.tape, hg.output, hg.size, fun k hk hs => hg.block k hk (fun e => hs e.symm)⟩
  refine ⟨⟨a.blk d.buf.blk fun x => by have := hge R x; omega, d.buf.row.away a fun k hk x => d.sep k x hk⟩, d.ok, ho, ?_, d.own, fun k hk e => ?_⟩
  · have a2 : Away (fun k => (k = R ∨ v0.ownBlock = some k) ∨ w0.heap.size ≤ k) w0 w' := (d.away.mono fun k hk => Or.inl hk).trans (a.mono fun k hk => Or.inr (hge k hk))
    exact Away.old (More.refl w0) a2 fun k hk => hk
  · rcases hown with e2 | e2
    · rw [e2] at hk; exact d.sep k hk e
    · rw [e2] at hk
      injection hk with hk
      have := (d.buf.row.own_ge e).2
      omega
def lenH : Value → Nat
  | .slice _ n _ => n
  | _ => 0
theorem owns_shape {w : World} {base e size n : Nat} {v : Value} {xs : List Value} (h : w.ownsRow base e size v n xs) : ∃ oa cap, v = .slice oa n cap := by
  rcases h.2 with ⟨rfl, h0⟩ | ⟨g, cap, cur, rfl, _⟩
  · exact ⟨none, 0, by rw [h0]⟩
  · exact ⟨_, cap, rfl⟩
def thJ (L : List Hd) : List Int := L.map fun h => h.2.2
set_option maxHeartbeats 2000000 in
theorem Drain_any (b : Jb) (ok : JOK b) (R : Nat) (v : Value) (w : World) (H : BufAt w R v b) :
    Calls Try.prog 59 #[.pointer (some ⟨R, 0, none⟩)] w fun e w' => ∃ vx, e = .returned vx ∧ ∃ v' b', DrJ w w' R v v' b' vx (thJ b.holds) ∧ b'.holds = [] := by
  have hR := lt_of_block H.blk
  obtain ⟨i0, hi, hz0, hz1, hz2⟩ := info_parts (P := Try.prog) (e := 3) (z := .int .i64 0) (size := 1) (bytes := 8) (by kernel_rfl)
  have HN8 : Hid (b.holds.length ≤ 8) := Lib.hid (by have := ok.fits; have := ok.room; omega)
  have D0 : Hid (DrJ w w R v v b (.slice none 0 0) []) := Lib.hid ⟨H, ok, World.ownsRow_nil _ _ _ _, Away.refl _ _, Or.inl rfl, fun k hk => by cases hk⟩
  clear H
  go_enter Try.func59, Try.ntmps59
  go_wp2
  go_loopw [3] (fun v3 wr => ∃ v' b' A, DrJ w wr R v v' b' v3 A ∧ A ++ thJ b'.holds = thJ b.holds) (fun v3 _ => b.holds.length - lenH v3)
  case atStart => exact ⟨v, b, [], D0.out, rfl⟩
  case round =>
    obtain ⟨v', b', A, hd, hA⟩ := hrel
    have HD := Lib.hid hd
    have HA := Lib.hid hA
    obtain ⟨_, _, c2, _, _, _⟩ := hd.buf.cells ⟨wr, More.refl _⟩
    obtain ⟨oa, cap, rfl, hl63⟩ := hd.buf.row.shape
    obtain ⟨o3, c3, rfl⟩ := owns_shape hd.row
    have hlen : A.length + b'.holds.length = b.holds.length := by
      have := congrArg List.length hA
      unfold thJ at this
      rw [List.length_append, List.length_map, List.length_map] at this
      exact this
    have HLEN := Lib.hid hlen
    clear hd hA
    cases hb : b'.holds with
    | nil =>
      have HB := Lib.hid hb
      rw [hb, List.length_nil] at c2
      clear hb
      have HA2 : Hid (A = thJ b.holds) := Lib.hid (by have := HA.out; rw [HB.out] at this; simpa [thJ] using this)
      go_wp2
      go_ret
      exact ⟨_, rfl, _, b', by rw [← HA2.out]; exact HD.out, HB.out⟩
    | cons h T =>
      have HB := Lib.hid hb
      have hpos : (0 : Int) < (b'.holds.length : Int) := by rw [hb]; simp
      clear hb
      have HSTEP := Lib.hid (Least_any b' h T HB.out HD.out.ok R _ wr HD.out.buf)
      have hfld : ∀ w2, (Instr.field 193 (.agg #[.int .i64 h.1, .int .i64 h.2.1, .int .i64 h.2.2]) 2).run Try.prog w2 = .ok (.int .i64 h.2.2) w2 := fun w2 => by kernel_rfl
      go_wp2_with (first | (go_at_call 122; ((with_reducible refine (HSTEP.out).mono ?_); rintro e w2 ⟨rfl, v2, st⟩; have D2 := Lib.hid (HD.out.step hR HB.out st); clear st c2)) | (at_builtin; refine wpList_append_at _ rfl (.tmp 10) (.tmp 14) 112 rfl w.heap.size 3 i0 (.int .i64 0) 8 Try.underlying112 hi hz0 hz1 hz2 rfl _ .i64 A rfl (D2.out.on (More.alloc _ _)).row _ [h.2.2] rfl (SlI.lit .i64 w2 [h.2.2] 3 _ 1 _ rfl rfl rfl (by simp)) (by have := HN8.out; have := HLEN.out; simp only [List.length_cons, List.length_nil]; omega) (by decide) (by have := D2.out.away.size; simp; omega) ?_; intro v5 w5 ho5 hg5 hx5; have D5 := Lib.hid ((D2.out.on (More.alloc _ _)).put hR ho5 hg5 hx5); obtain ⟨o5, c5, rfl⟩ := owns_shape ho5; clear ho5 hg5 hx5))
      go_roundw
      case rel => exact ⟨v2, leastJ b', A ++ [h.2.2], (by have := D5.out; rw [List.length_append] at this; exact this), by rw [show (leastJ b').holds = T by unfold leastJ; rw [HB.out]]; have := HA.out; rw [HB.out] at this; rw [← this]; simp [thJ]⟩
      case measure => have := HLEN.out; rw [HB.out] at this; simp [lenH] at *; omega
end Go.Proofs.Ytlnikmcimmnbmaa
