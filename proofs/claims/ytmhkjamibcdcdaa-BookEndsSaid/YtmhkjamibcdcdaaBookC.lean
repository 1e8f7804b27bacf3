/- Contracts of package book: Pending. -/
import Derived.Test.YtmhkjamibcdcdaaBookB
import Derived.Test.YtmhkjamibcdcdaaSortI
import Derived.Test.YtmhkjamibcdcdaaBitsB
namespace Go.Proofs.Ytmhkjamibcdcdaa
open Go.RowKit
set_option maxRecDepth 100000

/-- What is owed to a subscriber, among entries. -/
def pendOf (sub : Int) (l : Bk) : List Int := l.filterMap fun p => if p.1.1 = sub ∧ p.2 = 0 then some p.1.2 else none
def pendB (m : Bk) (sub : Int) : List Int := srt (pendOf sub m)
theorem pendOf_len (sub : Int) (l : Bk) : (pendOf sub l).length ≤ l.length := List.length_filterMap_le _ _
theorem outs_len {K V : Type} (L : List (K × V)) (is : List Nat) : (outs L is).length ≤ is.length := List.length_filterMap_le _ _
theorem pendOf_snoc (sub : Int) (l : Bk) (p : (Int × Int) × Int) : pendOf sub (l ++ [p]) = pendOf sub l ++ (if p.1.1 = sub ∧ p.2 = 0 then [p.1.2] else []) := by
  unfold pendOf
  rw [List.filterMap_append]
  by_cases h : p.1.1 = sub ∧ p.2 = 0 <;> simp [h]
set_option maxHeartbeats 2000000 in
theorem BPendingN {w : World} {B b : Nat} {m : Bk} (h : BookAt w B b m) (sub : Int) (hlen : m.length ≤ 1000000) :
    Calls Try.prog 32 #[.pointer (some ⟨B, 0, none⟩), .int .i64 sub] w fun e w' => (∃ v, e = .returned v ∧ SlI .i64 w' v (pendB m sub) ∧ ∀ q, v.ownBlock = some q → w.heap.size ≤ q) ∧ More w w' := by
  obtain ⟨i0, hi, hz0, hz1, hz2⟩ := info_parts (P := Try.prog) (e := 3) (z := .int .i64 0) (size := 1) (bytes := 8) (by kernel_rfl)
  have c0 := blk_cell h.blk 0 (v := .map (some b)) rfl
  have BL := Lib.hid h
  have hlen' := Lib.hid hlen
  obtain ⟨w1, hr1, hR1, hM1, hs1⟩ := h.map.range (P := Try.prog) Try.underlying136
  have hB := blk_lt h.blk
  have hbm := h.map.lt
  have HR1 := Lib.hid hR1
  have HM1 := Lib.hid hM1
  clear h hlen hR1 hM1 hs1
  go_enter Try.func32, Try.ntmps32
  go_wp2
  have hw1 : w.heap.size ≤ w1.heap.size := HM1.out.size
  go_loopw [5] (fun v5 wr => ∃ is : List Nat, RangeAt wr w.heap.size b ke2 (Value.int .i64) m is ∧ wr.ownsRow (w.heap.size + 1) 3 1 v5 (pendOf sub (outs m is)).length ((pendOf sub (outs m is)).map (Value.int .i64)) ∧ More w wr) (fun _ wr => rngLeft wr b w.heap.size)
  case atStart => exact ⟨[], HR1.out, World.ownsRow_nil _ _ _ _, HM1.out⟩
  case round =>
    obtain ⟨is, hR, ho, hm⟩ := hrel
    have HR := Lib.hid hR
    have HO := Lib.hid ho
    have HM := Lib.hid hm
    have HL := Lib.hid hR.left
    rcases hR.next (P := Try.prog) with ⟨hall, hn⟩ | ⟨i, hi', w2, hni, hlt, hn, hR2, hA2, hs2, he2⟩
    · clear hR ho hm
      have HA := Lib.hid hall
      clear hall
      have hl62 : (pendOf sub (outs m is)).length < 4611686018427387904 := by
        have h1 := pendOf_len sub (outs m is)
        have h2 := outs_len m is
        have h3 := HA.out
        have h4 := hlen'.out
        omega
      go_wp2_with (go_at_call 76; ((with_reducible refine (SortI HO.out hl62).mono ?_); rintro e w3 ⟨rfl, ho3, hg3⟩; have HO3 := Lib.hid ho3; have HG3 := Lib.hid hg3; clear ho3 hg3))
      go_ret
      have hp := HR.out.perm HA.out
      have e1 : srt (pendOf sub (outs m is)) = pendB m sub := srt_perm (hp.filterMap _)
      have ho3 := HO3.out
      rw [e1] at ho3
      refine ⟨⟨_, rfl, SlI.of_owns ho3 ?_, fun q hq => by have := own_ge HO.out hq; omega⟩, HM.out.grown HG3.out HM.out.size ?_⟩
      · have h1 := pendOf_len sub m
        have h2 : (pendB m sub).length = (pendOf sub m).length := srt_len _
        have h4 := hlen'.out
        omega
      · intro q hq
        have := own_ge HO.out hq
        omega
    · have hp1 := pendOf_len sub (outs m is)
      have hp2 := outs_len m is
      have hos := outs_snoc (L := m) (is := is) hi'
      have hps := pendOf_snoc sub (outs m is) m[i]
      rw [← hos] at hps
      have hl4 := hlen'.out
      have hlt' : is.length < 1000000 := by omega
      clear hR ho hm hos
      generalize m[i] = p at *
      obtain ⟨⟨k1, k2⟩, f⟩ := p
      unfold ke2 at hn he2
      simp only at hn he2 hps
      have ho2 := Lib.hid (own_off HO.out hA2 (fun k hk => by subst hk; exact Nat.lt_succ_self _))
      have HR2 := Lib.hid (hR2.more (More.alloc w2 (.cells #[.int .i64 k1, .int .i64 k2] 54)))
      have hm2 := Lib.hid ((HM.out.trans (Below.refl _ _)).trans (show More wr wr from More.refl _))
      have hM2 : More w w2 := Away.to_more HM.out hA2 (fun k hk => by subst hk; exact Nat.le_refl _)
      have HM2 := Lib.hid hM2
      have hw2 : w.heap.size + 1 ≤ w2.heap.size := by have := lt_of_block (HR.out.rlt |> fun h => (Array.getElem?_eq_getElem h)); omega
      have HS2 := Lib.hid hs2
      clear hR2 hA2 hM2 hm2 hs2
      have c2 : w2.cell? ⟨B, 0, none⟩ = some (.map (some b)) := blk_cell (blk_more HM2.out BL.out.blk) 0 rfl
      by_cases h1 : k1 = sub
      · by_cases h2 : f = 0
        · subst h1 h2
          rw [if_pos ⟨rfl, rfl⟩] at hps
          have HP := Lib.hid hps
          clear hps
          go_wp2_with (at_builtin; refine wpList_append_at _ rfl (.tmp 26) (.tmp 29) 47 rfl (w.heap.size + 1) 3 i0 (.int .i64 0) 8 Try.underlying47 hi hz0 hz1 hz2 rfl _ .i64 (pendOf k1 (outs m is)) rfl ((ho2.out.alloc _).alloc _) _ [k2] rfl (SlI.lit .i64 (w2.alloc (.cells #[.int .i64 k1, .int .i64 k2] 54)) [k2] 3 _ 1 _ (by simp) rfl (by simp) (by simp)) (by simp; omega) (by decide) (by simp; omega) ?_; intro v6 w6 own6 grow6 _; have HO6 := Lib.hid own6; have HA6 := Lib.hid (Away.of_grown grow6); have HG6 := Lib.hid grow6; clear own6 grow6)
          go_roundw
          case rel =>
            refine ⟨is ++ [i], (HR2.out.more (More.alloc _ _)).away HA6.out ?_ ?_, ?_, ?_⟩
            · intro e
              have := own_ge ho2.out e
              omega
            · intro e
              have := own_ge ho2.out e
              omega
            · rw [HP.out]; exact HO6.out
            · exact (((HM2.out.al _).al _).grown HG6.out ((HM2.out.al _).al _).size (fun q hq => by have := own_ge ho2.out hq; omega))
          case measure =>
            have hR6 := (HR2.out.more (More.alloc _ _)).away HA6.out (fun e => by have := own_ge ho2.out e; omega) (fun e => by have := own_ge ho2.out e; omega)
            rw [HL.out, hR6.left]
            simp
            omega
        · have hf : (f == 0) = false := by simpa using h2
          rw [if_neg (fun h => h2 h.2), List.append_nil] at hps
          have HP := Lib.hid hps
          clear hps h2
          subst h1
          go_wp2
          go_roundw
          case rel => exact ⟨is ++ [i], HR2.out, by rw [HP.out]; exact ho2.out.alloc _, HM2.out.al _⟩
          case measure =>
            rw [HL.out, HR2.out.left]
            simp
            omega
      · have hf : (k1 == sub) = false := by simpa using h1
        rw [if_neg (fun h => h1 h.1), List.append_nil] at hps
        have HP := Lib.hid hps
        clear hps h1
        go_wp2
        go_roundw
        case rel => exact ⟨is ++ [i], HR2.out, by rw [HP.out]; exact ho2.out.alloc _, HM2.out.al _⟩
        case measure =>
          rw [HL.out, HR2.out.left]
          simp
          omega
theorem BPending {w : World} {B b : Nat} {m : Bk} (h : BookAt w B b m) (sub : Int) (hlen : m.length ≤ 1000000) :
    Calls Try.prog 32 #[.pointer (some ⟨B, 0, none⟩), .int .i64 sub] w fun e w' => (∃ v, e = .returned v ∧ SlI .i64 w' v (pendB m sub)) ∧ More w w' :=
  (BPendingN h sub hlen).mono fun _ _ ⟨⟨v, h1, h2, _⟩, h3⟩ => ⟨⟨v, h1, h2⟩, h3⟩
end Go.Proofs.Ytmhkjamibcdcdaa
