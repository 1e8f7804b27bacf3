/- Contracts of package book: End. -/
import Derived.Test.YtmhkjamibcdcdaaBookD
namespace Go.Proofs.Ytmhkjamibcdcdaa
open Go.RowKit
set_option maxRecDepth 100000

/-- What is owed to a subscriber gets a fate. -/
def endM (m : Bk) (sub f : Int) : Bk := m.map fun p => if p.1.1 = sub ∧ p.2 = 0 then (p.1, f) else p
def endB (m : Bk) (sub f : Int) : Bk × List Int := if 1 ≤ f ∧ f ≤ 8 then (endM m sub f, pendB m sub) else (m, [])
def endF (m : Bk) (sub f : Int) (ps : List Int) : Bk := ps.foldl (fun m p => mput m (sub, p) f) m
theorem endF_snoc (m : Bk) (sub f : Int) (ps : List Int) (p : Int) : endF m sub f (ps ++ [p]) = mput (endF m sub f ps) (sub, p) f := by simp [endF, List.foldl_append]
theorem mput_map {k : Int × Int} {f : Int} : ∀ {m : Bk}, (m.map Prod.fst).Nodup → k ∈ m.map Prod.fst → mput m k f = m.map fun p => if p.1 = k then (p.1, f) else p
  | [], _, h => by simp at h
  | (a, b) :: l, hn, h => by
    simp only [List.map_cons, List.nodup_cons] at hn
    unfold mput
    by_cases e : k = a
    · subst e
      rw [if_pos rfl]
      simp only [List.map_cons, if_pos]
      congr 1
      symm
      have : ∀ p ∈ l, (if p.1 = k then (p.1, f) else p) = p := fun p hp => by
        rw [if_neg]
        intro e
        exact hn.1 (by rw [← e]; exact List.mem_map_of_mem hp)
      calc l.map (fun p => if p.1 = k then (p.1, f) else p) = l.map id := List.map_congr_left this
        _ = l := by simp
    · rw [if_neg e]
      simp only [List.map_cons]
      rw [if_neg (fun h => e h.symm)]
      congr 1
      exact mput_map hn.2 (by simp [e] at h; simpa using h)
theorem endF_map (sub f : Int) : ∀ (ps : List Int) (m : Bk), (m.map Prod.fst).Nodup → (∀ p ∈ ps, (sub, p) ∈ m.map Prod.fst) → endF m sub f ps = m.map fun p => if p.1.1 = sub ∧ p.1.2 ∈ ps then (p.1, f) else p
  | [], m, _, _ => by simp [endF]
  | p :: ps, m, hn, hk => by
    have h1 := mput_map (f := f) hn (hk p List.mem_cons_self)
    have e : endF m sub f (p :: ps) = endF (mput m (sub, p) f) sub f ps := rfl
    have hkeys : (mput m (sub, p) f).map Prod.fst = m.map Prod.fst := by
      rw [h1, List.map_map]
      refine List.map_congr_left fun q _ => ?_
      simp only [Function.comp]
      split <;> rfl
    rw [e, endF_map sub f ps _ (by rw [hkeys]; exact hn) (fun q hq => by rw [hkeys]; exact hk q (List.mem_cons_of_mem _ hq)), h1, List.map_map]
    refine List.map_congr_left fun q _ => ?_
    obtain ⟨⟨a, c⟩, g⟩ := q
    simp only [Function.comp]
    by_cases ea : a = sub
    · subst ea
      by_cases ec : c = p
      · subst ec; simp
      · simp [ec]
    · simp [ea]
theorem pendB_mem {m : Bk} {sub x : Int} : x ∈ pendB m sub ↔ ((sub, x), 0) ∈ m := by
  unfold pendB pendOf
  rw [srt_mem, List.mem_filterMap]
  constructor
  · rintro ⟨⟨⟨a, c⟩, g⟩, hm, h⟩
    by_cases e : a = sub ∧ g = 0
    · rw [if_pos e] at h
      cases h
      obtain ⟨rfl, rfl⟩ := e
      exact hm
    · rw [if_neg e] at h; cases h
  · intro h
    exact ⟨_, h, by simp⟩
theorem nodup_val {m : Bk} (hn : (m.map Prod.fst).Nodup) {k : Int × Int} {f g : Int} (h1 : (k, f) ∈ m) (h2 : (k, g) ∈ m) : f = g := by
  induction m with
  | nil => cases h1
  | cons p l ih =>
    simp only [List.map_cons, List.nodup_cons] at hn
    rcases List.mem_cons.1 h1 with e1 | h1' <;> rcases List.mem_cons.1 h2 with e2 | h2'
    · rw [← e1] at e2; cases e2; rfl
    · exfalso; apply hn.1; rw [← e1]; exact List.mem_map.2 ⟨_, h2', rfl⟩
    · exfalso; apply hn.1; rw [← e2]; exact List.mem_map.2 ⟨_, h1', rfl⟩
    · exact ih hn.2 h1' h2'
theorem endF_pend {m : Bk} (sub f : Int) (hn : (m.map Prod.fst).Nodup) : endF m sub f (pendB m sub) = endM m sub f := by
  rw [endF_map sub f _ m hn (fun p hp => List.mem_map_of_mem (f := Prod.fst) (pendB_mem.1 hp))]
  unfold endM
  refine List.map_congr_left fun q hq => ?_
  obtain ⟨⟨a, c⟩, g⟩ := q
  simp only
  by_cases e : a = sub
  · subst e
    by_cases eg : g = 0
    · subst eg
      rw [if_pos ⟨rfl, pendB_mem.2 hq⟩, if_pos ⟨rfl, rfl⟩]
    · rw [if_neg (fun h => eg (nodup_val hn hq (pendB_mem.1 h.2))), if_neg (fun h => eg h.2)]
  · rw [if_neg (fun h => e h.1), if_neg (fun h => e h.1)]
theorem SlI.onmap {K V : Type} {k : IntKind} {w w' : World} {b : Nat} {v : Value} {l : List Int} {ke : K → Value} {ve : V → Value} {L : List (K × V)} (h : SlI k w v l) (hm : MapAt w b ke ve L) (a : Away (fun x => x = b) w w') : SlI k w' v l := by
  obtain ⟨oa, cap, h1, h2, h3, h4⟩ := h
  refine ⟨oa, cap, h1, h2, fun i hi => ?_, h4⟩
  obtain ⟨c, off, e, hc, hv⟩ := h3 i hi
  have hne : ¬ c = b := by
    rintro rfl
    obtain ⟨es, cl, hb, _⟩ := hm.ex
    simp [World.cell?, hb] at hv
  exact ⟨c, off, e, Nat.lt_of_lt_of_le hc a.size, by rw [a.cells c (off + i) hc hne]; exact hv⟩
theorem mput_len {m : Bk} (k : Int × Int) (f : Int) : (mput m k f).length ≤ m.length + 1 := by
  induction m with
  | nil => simp [mput]
  | cons p l ih =>
    unfold mput
    split <;> simp <;> omega
set_option maxHeartbeats 2000000 in
theorem BEndN {w : World} {B b : Nat} {m : Bk} (h : BookAt w B b m) (sub f : Int) (hlen : m.length ≤ 1000000) :
    Calls Try.prog 31 #[.pointer (some ⟨B, 0, none⟩), .int .i64 sub, .int .i64 f] w fun e w' => (∃ v, e = .returned v ∧ SlI .i64 w' v (endB m sub f).2 ∧ ∀ q, v.ownBlock = some q → w.heap.size ≤ q) ∧ BookAt w' B b (endB m sub f).1 ∧ Away (fun x => x = b) w w' := by
  by_cases hf : 1 ≤ f ∧ f ≤ 8
  · have HF := Lib.hid hf
    have HB := Lib.hid h
    have he : endB m sub f = (endM m sub f, pendB m sub) := by unfold endB; rw [if_pos hf]
    have HE := Lib.hid he
    have hpl : (pendB m sub).length ≤ 1000000 := by
      have h1 := pendOf_len sub m
      have h2 : (pendB m sub).length = (pendOf sub m).length := srt_len _
      omega
    clear h he hf
    go_enter Try.func31, Try.ntmps31
    go_wp2_with first | (go_at_call 75; ((with_reducible refine (BSettled_yes f _ HF.out).mono ?_); rintro e w2 ⟨rfl, rfl⟩)) | (go_at_call 32; ((with_reducible refine (BPendingN HB.out sub hlen).mono ?_); rintro e w3 ⟨⟨v3, rfl, s3, n3⟩, m3⟩; have S3 := Lib.hid s3; have M3 := Lib.hid m3; obtain ⟨o3, k3, rfl, _⟩ := s3; have N3 := Lib.hid n3; clear m3 n3))
    go_loopw [18] (fun i wr => ∃ j : Nat, j ≤ (pendB m sub).length ∧ i = .int .i64 j ∧ BookAt wr B b (endF m sub f ((pendB m sub).take j)) ∧ SlI .i64 wr (.slice o3 (pendB m sub).length k3) (pendB m sub) ∧ Away (fun x => x = b) w wr) (fun i _ => (pendB m sub).length - (intOf i).toNat)
    case atStart => exact ⟨0, by omega, rfl, HB.out.more M3.out, S3.out, Away.of_more M3.out⟩
    case round =>
      obtain ⟨j, hj, rfl, hb, hs, ha⟩ := hrel
      have HBJ := Lib.hid hb
      have HS := Lib.hid hs
      have HA := Lib.hid ha
      have c0 := blk_cell hb.blk 0 (v := .map (some b)) rfl
      by_cases hlt : j < (pendB m sub).length
      · obtain ⟨oa, cap, ev, _, h3, _⟩ := hs
        cases ev
        obtain ⟨pb, off, rfl, hpb, hcell⟩ := h3 j hlt
        have hjl : (j : Int) < ((pendB m sub).length : Int) := by omega
        have hgd : (pendB m sub).getD j 0 = (pendB m sub)[j] := by simp [hlt]
        rw [hgd] at hcell
        have htk : (pendB m sub).take (j + 1) = (pendB m sub).take j ++ [(pendB m sub)[j]] := List.take_succ_eq_append_getElem hlt
        have HT := Lib.hid htk
        clear h3 hgd htk
        generalize (pendB m sub)[j] = p at *
        obtain ⟨w4, hr, hm4, ha4, _⟩ := hb.map.update keyKey Try.underlying136 (sub, p) f
        unfold ke2 at hr
        simp only at hr
        have HM4 := Lib.hid hm4
        have HA4 := Lib.hid ha4
        clear hb ha hm4 ha4
        go_wp2
        go_roundw
        case rel =>
          refine ⟨j + 1, by omega, by go_num, ?_, HS.out.onmap HBJ.out.map HA4.out, HA.out.trans HA4.out⟩
          rw [HT.out, endF_snoc]
          exact HBJ.out.put HA4.out (by have := HF.out; omega) HM4.out
        case measure => simp [intOf]; omega
      · obtain rfl : j = (pendB m sub).length := by omega
        clear hb hs ha
        go_wp2
        go_ret
        rw [HE.out]
        have hb := HBJ.out
        rw [List.take_length, endF_pend sub f HB.out.map.keys] at hb
        exact ⟨⟨_, rfl, HS.out, N3.out⟩, hb, HA.out⟩
  · have he : endB m sub f = (m, []) := by unfold endB; rw [if_neg hf]
    have HE := Lib.hid he
    have HF := Lib.hid hf
    clear he hf
    go_enter Try.func31, Try.ntmps31
    go_wp2_with (go_at_call 75; ((with_reducible refine (BSettled_no f _ HF.out).mono ?_); rintro e w2 ⟨rfl, rfl⟩))
    go_ret
    rw [HE.out]
    exact ⟨⟨_, rfl, SlI.nil _ _, fun q hq => by cases hq⟩, h, Away.refl _ _⟩
theorem BEnd {w : World} {B b : Nat} {m : Bk} (h : BookAt w B b m) (sub f : Int) (hlen : m.length ≤ 1000000) :
    Calls Try.prog 31 #[.pointer (some ⟨B, 0, none⟩), .int .i64 sub, .int .i64 f] w fun e w' => (∃ v, e = .returned v ∧ SlI .i64 w' v (endB m sub f).2) ∧ BookAt w' B b (endB m sub f).1 ∧ Away (fun x => x = b) w w' :=
  (BEndN h sub f hlen).mono fun _ _ ⟨⟨v, h1, h2, _⟩, h3⟩ => ⟨⟨v, h1, h2⟩, h3⟩
end Go.Proofs.Ytmhkjamibcdcdaa
