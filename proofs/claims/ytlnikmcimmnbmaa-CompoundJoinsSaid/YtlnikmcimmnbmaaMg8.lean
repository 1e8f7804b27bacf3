/- Merged from my texts ChunkB, ChunkC. -/
import Derived.Test.YtlnikmcimmnbmaaMg7
import Derived.Test.YtlnikmcimmnbmaaMg4
/- Chunks: Join. -/
namespace Go.Proofs.Ytlnikmcimmnbmaa
set_option linter.unusedSimpArgs false
set_option linter.unusedVariables false
open Go.RowKit
set_option maxRecDepth 100000

/-- The bytes of a chunk; of chunks; how many. -/
def chB (c : Chunk) : List Int := bysA (128 + c.1) 1 ++ (bysA c.2.1 1 ++ (bysA ((c.2.2.1.length : Int) / 4) 2 ++ c.2.2.1))
def flC (l : List Chunk) : List Int := l.flatMap chB
def szC (l : List Chunk) : Nat := (l.map fun c => 4 + c.2.2.1.length).sum
theorem chB_len (c : Chunk) : (chB c).length = 4 + c.2.2.1.length := by
  unfold chB
  simp [bysA_len2]
  omega
theorem flC_len (l : List Chunk) : (flC l).length = szC l := by
  induction l with
  | nil => rfl
  | cons c l ih =>
    have e : flC (c :: l) = chB c ++ flC l := rfl
    have e2 : szC (c :: l) = 4 + c.2.2.1.length + szC l := by simp [szC]
    rw [e, e2, List.length_append, chB_len, ih]
theorem flC_succ (l : List Chunk) (j : Nat) (h : j < l.length) : flC (l.take (j + 1)) = flC (l.take j) ++ chB (l.getD j chunk0) := by
  unfold flC
  rw [getD_snoc l j chunk0 h, List.flatMap_append]
  simp
theorem szC_succ (l : List Chunk) (j : Nat) (h : j < l.length) : szC (l.take (j + 1)) = szC (l.take j) + (4 + (l.getD j chunk0).2.2.1.length) := by
  unfold szC
  rw [getD_snoc l j chunk0 h, List.map_append, List.sum_append]
  simp
theorem szC_le (l : List Chunk) (j : Nat) : szC (l.take j) ≤ szC l := by
  conv => rhs; rw [← List.take_append_drop j l]
  unfold szC
  rw [List.map_append, List.sum_append]
  omega
/-- What Join answers. -/
def joinC (l : List Chunk) : List Int × Int := if l.all rightB = false then ([], 1) else if 200 < szC l then ([], 4) else (flC l, 0)
theorem rightB_iff (c : Chunk) : rightB c = true ↔ c.1 ≤ 31 ∧ c.2.2.1.length % 4 = 0 ∧ c.2.2.1.length ≤ 196 := by unfold rightB; simp
theorem joinC_bad {l : List Chunk} {i : Nat} (hi : i < l.length) (h : rightB (l.getD i chunk0) = false) : joinC l = ([], 1) := by
  unfold joinC
  rw [if_pos]
  rw [List.all_eq_false]
  exact ⟨l.getD i chunk0, by simp [hi], by rw [h]; simp⟩
theorem joinC_all {l : List Chunk} (h : ∀ i, i < l.length → rightB (l.getD i chunk0) = true) : l.all rightB = true := by
  rw [List.all_eq_true]
  intro c hc
  obtain ⟨i, hi, rfl⟩ := List.mem_iff_getElem.1 hc
  have := h i hi
  simpa [hi] using this
set_option maxHeartbeats 1000000 in
theorem Join_any (v : Value) (l : List Chunk) (w : World) (sl : SlP 3 RChunk w v l) (hl : l.length ≤ 100000) (hB : ∀ i, i < l.length → (l.getD i chunk0).2.2.1.length ≤ 1000000) :
    Calls Try.prog 131 #[v] w fun e w' => ∃ vx, e = .returned (.tuple #[vx, .int .i64 (joinC l).2]) ∧ SlI .u8 w' vx (joinC l).1 ∧ More w w' := by
  obtain ⟨oa, cap, rfl, hl63, hel⟩ := chunks sl
  clear sl
  go_enter Try.func131, Try.ntmps131
  go_wp2
  go_loopw [4, 12] (fun s i wr => ∃ j : Nat, j ≤ l.length ∧ i = .int .i64 j ∧ s = .int .i64 (szC (l.take j) : Nat) ∧ szC (l.take j) ≤ 200 * j ∧ (∀ i, i < j → rightB (l.getD i chunk0) = true) ∧ More w wr) (fun _ i _ => l.length - (intOf i).toNat)
  case atStart => exact ⟨0, by omega, rfl, rfl, by simp [szC], fun i hi => by omega, More.refl _⟩
  case round =>
    obtain ⟨j, hj, rfl, rfl, hz, hall, hmr⟩ := hrel
    by_cases hlt : j < l.length
    · obtain ⟨b, off, vb, rfl, hb, ht⟩ := hel j hlt
      have ht0 := Lib.hid ht
      obtain ⟨c0, c1, c2, hs, hok⟩ := ht.more hmr hb
      have hjl : (j : Int) < (l.length : Int) := by omega
      have hbw : b < wr.heap.size := Nat.lt_of_lt_of_le hb hmr.size
      have hs1 := Lib.hid (hs.keep (More.alloc wr (.cells #[.int .u8 (l.getD j chunk0).1, .int .u8 (l.getD j chunk0).2.1, vb] 30)))
      obtain ⟨ob, capb, rfl, _⟩ := hs
      have HS := Lib.hid (szC_succ l j hlt)
      have hBj := hB j hlt
      have HJ := Lib.hid (fun h => joinC_bad (l := l) hlt h)
      have HA := Lib.hid hall
      have HR : Hid (∀ b, rightB (l.getD j chunk0) = b → b = true → (l.getD j chunk0).2.2.1.length ≤ 196 ∧ ∀ i, i < j + 1 → rightB (l.getD i chunk0) = true) := Lib.hid (fun b e h => by
        subst e
        refine ⟨((rightB_iff _).1 h).2.2, fun i hi => ?_⟩
        by_cases e : i < j
        · exact HA.out i e
        · obtain rfl : i = j := by omega
          exact h)
      clear hel ht hall hB
      generalize hcc : l.getD j chunk0 = c at *
      have HC := Lib.hid hcc
      clear hcc
      generalize szC (l.take j) = z at *
      cases hr : rightB c with
      | true =>
        obtain ⟨h196, hnext⟩ := HR.out true hr rfl
        have HNx := Lib.hid hnext
        clear hnext
        go_wp2_with (go_at_call 49; refine (Right07_any c hs1.out hBj).mono ?_; rintro e w6 ⟨rfl, hm6⟩; rw [hr]; have M6 := (hmr.al _).trans hm6; have q6 := blk_cell (blk_more hm6 (blk_new wr _)) 2 (v := .slice ob c.2.2.1.length capb) rfl)
        go_roundw
        case rel => exact ⟨j + 1, by omega, by go_num, by rw [HS.out]; go_num, by rw [HS.out]; omega, HNx.out, M6⟩
        case measure => simp [intOf]; omega
      | false =>
        have hj := HJ.out hr
        go_wp2_with (go_at_call 49; refine (Right07_any c hs1.out hBj).mono ?_; rintro e w6 ⟨rfl, hm6⟩; rw [hr]; have M6 := (hmr.al _).trans hm6)
        refine bodyPost_ret (v := .tuple #[.slice none 0 0, .int .i64 1]) (by simp [results, Try.results131, go_sem]) rfl ?_
        exact ⟨_, by rw [hj], by rw [hj]; exact SlI.nil _ _, M6⟩
    · obtain rfl : j = l.length := by omega
      rw [List.take_length] at *
      have hall9 := joinC_all hall
      by_cases h200 : 200 < szC l
      · have hj : joinC l = ([], 4) := by unfold joinC; rw [if_neg (by rw [hall9]; simp), if_pos h200]
        have HJ := Lib.hid hj
        have h200i : (200 : Int) < (szC l : Int) := by omega
        clear hj hel hB hall
        go_wp2
        refine bodyPost_ret (v := .tuple #[.slice none 0 0, .int .i64 4]) (by simp [results, Try.results131, go_sem]) rfl ?_
        exact ⟨_, by rw [HJ.out], by rw [HJ.out]; exact SlI.nil _ _, hmr⟩
      · have hj : joinC l = (flC l, 0) := by unfold joinC; rw [if_neg (by rw [hall9]; simp), if_neg h200]
        have HJ := Lib.hid hj
        have h200i : ¬ (200 : Int) < (szC l : Int) := by omega
        have HA := Lib.hid hall
        clear hj hB hall
        go_wp2
        have hW0 := writer_new wr
        have hM0 := hmr.al (.cells #[.slice none 0 0] 138)
        have hWw := hmr.size
        generalize hWe : wr.heap.size = W at *
        go_loopw [30] (fun i wr => ∃ j : Nat, j ≤ l.length ∧ i = .int .i64 j ∧ (∃ v, WriterAt wr W v (flC (l.take j))) ∧ More w wr) (fun i _ => l.length - (intOf i).toNat)
        case atStart => exact ⟨0, by omega, rfl, ⟨_, hW0⟩, hM0⟩
        case round =>
          obtain ⟨j, hj, rfl, ⟨v, hr⟩, hmr⟩ := hrel
          by_cases hlt : j < l.length
          · obtain ⟨b, off, vb, rfl, hb, ht⟩ := hel j hlt
            obtain ⟨c0, c1, c2, hs, hok⟩ := ht.more hmr hb
            have hjl : (j : Int) < (l.length : Int) := by omega
            have hbw : b < wr.heap.size := Nat.lt_of_lt_of_le hb hmr.size
            have ha := flC_succ l j hlt
            have hz : (flC (l.take j)).length ≤ 200 := by rw [flC_len]; have := szC_le l j; omega
            have hrt := (rightB_iff _).1 (HA.out j hlt)
            have HE := Lib.hid ha
            have HS := Lib.hid hs
            have HS9 := Lib.hid ht.sl
            obtain ⟨ob, capb, rfl, _⟩ := hs
            clear hel ht ha
            generalize l.getD j chunk0 = c at *
            obtain ⟨k, n, q, ⟨⟩⟩ := c
            simp only at c0 c1 c2 hrt
            generalize flC (l.take j) = acc at *
            obtain ⟨⟨hk0, hk1⟩, ⟨hn0, hn1⟩, hq⟩ := hok
            obtain ⟨hr1, hr2, hr3⟩ := hrt
            change 0 ≤ k at hk0
            change 0 ≤ n at hn0
            change n ≤ 255 at hn1
            change Hid (SlI .u8 wr _ q) at HS
            change Hid (SlI .u8 w _ q) at HS9
            change Hid (_ = acc ++ chB (k, n, q, ())) at HE
            have hb1 : 0 ≤ 128 + k ∧ 128 + k ≤ 255 := by omega
            have hb2 : 0 ≤ n ∧ n ≤ 255 := by omega
            have hb3 : 0 ≤ (q.length : Int) / 4 ∧ (q.length : Int) / 4 ≤ 65535 := by omega
            have hz1 : (acc ++ bysA (128 + k) 1).length ≤ 1000000 := by rw [List.length_append, bysA_len2 _ _ (by decide)]; omega
            have hz2 : (acc ++ bysA (128 + k) 1 ++ bysA n 1).length ≤ 1000000 := by rw [List.length_append, List.length_append, bysA_len2 _ _ (by decide), bysA_len2 _ _ (by decide)]; omega
            have hz3 : (acc ++ bysA (128 + k) 1 ++ bysA n 1 ++ bysA ((q.length : Int) / 4) 2).length + q.length ≤ 10000000 := by rw [List.length_append, List.length_append, List.length_append, bysA_len2 _ _ (by decide), bysA_len2 _ _ (by decide), bysA_len2 _ _ (by decide)]; omega
            have hd : ((q.length : Int)).tdiv 4 = (q.length : Int) / 4 := Int.tdiv_eq_ediv_of_nonneg (by omega)
            have hw1 : (128 + k) % 256 = 128 + k := by omega
            have HZ := Lib.hid (And.intro hz1 (And.intro hz2 hz3))
            have HB := Lib.hid (And.intro hb1 (And.intro hb2 hb3))
            clear hz1 hz2 hz3 hb1 hb2 hb3
            have X0 := Lib.hid (WrK.new (.cells #[.int .u8 k, .int .u8 n, .slice ob q.length capb] 30) hr hmr hWw)
            have hE : acc ++ bysA (128 + k) 1 ++ bysA n 1 ++ bysA ((q.length : Int) / 4) 2 ++ q = acc ++ chB (k, n, q, ()) := by unfold chB; simp only [List.append_assoc]
            have HF := Lib.hid hE
            clear hE
            go_wp2_with first | (go_at_call 72; ((with_reducible refine (WByte_any X0.out.wr (128 + k) HB.out.1 (by omega)).mono ?_); rintro e w6 ⟨rfl, hw6⟩; obtain ⟨v6, X6⟩ := X0.out.wrote hw6; have c61 := blk_cell X6.keep 1 (v := .int .u8 n) rfl; clear hw6)) | (go_at_call 72; ((with_reducible refine (WByte_any X6.wr n HB.out.2.1 HZ.out.1).mono ?_); rintro e w7 ⟨rfl, hw7⟩; obtain ⟨v7, X7⟩ := X6.wrote hw7; have c72 := blk_cell X7.keep 2 (v := .slice ob q.length capb) rfl; clear hw7)) | (go_at_call 86; ((with_reducible refine (WShort_any X7.wr ((q.length : Int) / 4) HB.out.2.2 HZ.out.2.1).mono ?_); rintro e w8 ⟨rfl, hw8⟩; obtain ⟨v8, X8⟩ := X7.wrote hw8; have c82 := blk_cell X8.keep 2 (v := .slice ob q.length capb) rfl; have s8 := HS9.out.keep X8.more; clear hw8)) | (go_at_call 87; ((with_reducible refine (wrote_raw X8.wr _ _ s8 HZ.out.2.2).mono ?_); rintro e w9 ⟨rfl, hw9⟩; obtain ⟨v9, X9⟩ := X8.wrote hw9; clear hw9))
            go_roundw
            case rel => exact ⟨j + 1, by omega, by go_num, ⟨v9, by rw [HE.out, ← HF.out]; exact X9.wr⟩, X9.more⟩
            case measure => simp [intOf]; omega
          · obtain rfl : j = l.length := by omega
            rw [List.take_length] at hr
            have hz : (flC l).length ≤ 200 := by rw [flC_len]; omega
            clear hel
            go_wp2_with (go_at_call 74; refine (WBytes_any hr (by omega)).mono ?_; rintro e w6 ⟨v6, rfl, ho6, m6⟩; have s6 := Lib.hid (SlI.of_owns ho6 (by omega)); clear ho6)
            refine bodyPost_ret (v := .tuple #[v6, .int .i64 0]) (by simp [results, Try.results131, go_sem]) rfl ?_
            exact ⟨_, by rw [HJ.out], by rw [HJ.out]; exact s6.out, hmr.trans m6⟩
end Go.Proofs.Ytlnikmcimmnbmaa
/- Chunks: one is read. -/
namespace Go.Proofs.Ytlnikmcimmnbmaa
set_option linter.unusedSimpArgs false
set_option linter.unusedVariables false
open Go.RowKit
set_option maxRecDepth 100000

/-- Bytes without those behind them. -/
def unpadC (b : List Int) : List Int × Bool :=
  if b = [] then ([], false) else
    let n := b.getD (b.length - 1) 0
    if n = 0 ∨ ¬ n % 4 = 0 ∨ (b.length : Int) < n then ([], false) else (b.take (b.length - n.toNat), true)
theorem Unpad_any {w : World} {v : Value} {b : List Int} (hs : SlI .u8 w v b) (hb : Byt b) :
    Calls Try.prog 159 #[v] w fun e w' => (∃ v', e = .returned (.tuple #[v', .bool (unpadC b).2]) ∧ SlI .u8 w v' (unpadC b).1 ∧ ∀ g, v'.ownBlock = some g → v.ownBlock = some g) ∧ w' = w := by
  have HS := Lib.hid hs
  obtain ⟨oa, cap, rfl, h1, h2, h3, h4, h5⟩ := hs
  by_cases hn : b = []
  · subst hn
    have hu : unpadC [] = ([], false) := rfl
    have HU := Lib.hid hu
    clear hu HS h5
    go_enter Try.func159, Try.ntmps159
    go_wp2
    refine bodyPost_ret (v := .tuple #[.slice none 0 0, .bool false]) (by simp [results, Try.results159, go_sem]) rfl ?_
    exact ⟨⟨_, rfl, SlI.nil _ _, fun g h => by cases h⟩, rfl⟩
  · have hl0 : 0 < b.length := List.length_pos_iff.2 hn
    obtain ⟨bk, off, rfl, hlt, hc⟩ := h2 (b.length - 1) (by omega)
    have hbd := hb (b.length - 1)
    have hidx : ((b.length : Int) - 1) = ((b.length - 1 : Nat) : Int) := by omega
    have hii : (0 : Int) ≤ (b.length : Int) - 1 := by omega
    have hil : (b.length : Int) - 1 < (b.length : Int) := by omega
    have hz : ¬ (b.length : Int) = 0 := by omega
    have hcap : (b.length : Int) ≤ (cap : Int) := by omega
    have htn : ((b.length : Int) - 1).toNat = b.length - 1 := by omega
    have hU : ∀ n, b.getD (b.length - 1) 0 = n → unpadC b = if n = 0 ∨ ¬ n % 4 = 0 ∨ (b.length : Int) < n then ([], false) else (b.take (b.length - n.toNat), true) := fun n e => by
      unfold unpadC; rw [if_neg hn]; simp only [e]
    have HU := Lib.hid (hU _ rfl)
    have HN := Lib.hid hn
    clear hU h2 hb h5 hn
    generalize b.getD (b.length - 1) 0 = n at *
    obtain ⟨hn0, hn1⟩ := hbd
    have htm : n.tmod 4 = n % 4 := Int.tmod_eq_emod_of_nonneg hn0
    have hways : n = 0 ∨ (¬ n = 0 ∧ ¬ n % 4 = 0) ∨ (¬ n = 0 ∧ n % 4 = 0 ∧ (b.length : Int) < n) ∨ (¬ n = 0 ∧ n % 4 = 0 ∧ ¬ (b.length : Int) < n) := by omega
    rcases hways with h | ⟨h, h'⟩ | ⟨h, h', h''⟩ | ⟨h, h', h''⟩
    · have hu : unpadC b = ([], false) := by rw [HU.out, if_pos (Or.inl h)]
      clear HU
      have HU := Lib.hid hu
      clear hu
      subst h
      go_enter Try.func159, Try.ntmps159
      go_wp2
      refine bodyPost_ret (v := .tuple #[.slice none 0 0, .bool false]) (by simp [results, Try.results159, go_sem]) rfl ?_
      exact ⟨⟨.slice none 0 0, by rw [HU.out], by rw [HU.out]; exact SlI.nil _ _, fun g h => by cases h⟩, rfl⟩
    · have hu : unpadC b = ([], false) := by rw [HU.out, if_pos (Or.inr (Or.inl h'))]
      clear HU
      have HU := Lib.hid hu
      clear hu
      go_enter Try.func159, Try.ntmps159
      go_wp2
      refine bodyPost_ret (v := .tuple #[.slice none 0 0, .bool false]) (by simp [results, Try.results159, go_sem]) rfl ?_
      exact ⟨⟨.slice none 0 0, by rw [HU.out], by rw [HU.out]; exact SlI.nil _ _, fun g h => by cases h⟩, rfl⟩
    · have hu : unpadC b = ([], false) := by rw [HU.out, if_pos (Or.inr (Or.inr h''))]
      clear HU
      have HU := Lib.hid hu
      clear hu
      go_enter Try.func159, Try.ntmps159
      go_wp2
      refine bodyPost_ret (v := .tuple #[.slice none 0 0, .bool false]) (by simp [results, Try.results159, go_sem]) rfl ?_
      exact ⟨⟨.slice none 0 0, by rw [HU.out], by rw [HU.out]; exact SlI.nil _ _, fun g h => by cases h⟩, rfl⟩
    · have hu : unpadC b = (b.take (b.length - n.toNat), true) := by rw [HU.out, if_neg (by omega)]
      clear HU
      have HU := Lib.hid hu
      clear hu
      obtain ⟨m, rfl⟩ : ∃ m : Nat, n = m := ⟨n.toNat, by omega⟩
      have hs1 : (0 : Int) ≤ (b.length : Int) - (m : Int) := by omega
      have hs2 : (b.length : Int) - (m : Int) ≤ (cap : Int) := by omega
      have hs3 : ((b.length : Int) - (m : Int)).toNat = b.length - m := by omega
      go_enter Try.func159, Try.ntmps159
      go_wp2
      refine bodyPost_ret (v := .tuple #[.slice (some ⟨bk, off, none⟩) (b.length - m) cap, .bool true]) (by simp [results, Try.results159, go_sem]) rfl ?_
      exact ⟨⟨.slice (some ⟨bk, off, none⟩) (b.length - m) cap, by rw [HU.out], by rw [HU.out]; exact HS.out.take _ (by omega), fun g h => h⟩, rfl⟩
end Go.Proofs.Ytlnikmcimmnbmaa
