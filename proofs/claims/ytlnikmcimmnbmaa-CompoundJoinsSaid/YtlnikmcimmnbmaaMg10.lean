/- Merged from my texts ChunkE. -/
import Derived.Test.YtlnikmcimmnbmaaMg9
import Derived.WalkMore
import Derived.ScopeJumps
/- Chunks: Split. -/
namespace Go.Proofs.Ytlnikmcimmnbmaa
set_option linter.unusedSimpArgs false
set_option linter.unusedVariables false
open Go.RowKit
set_option maxRecDepth 100000

/-- The chunks that are read, one behind the other, until nothing is left. -/
def splitF : Nat → List Chunk → RdS → List Chunk × RdS
  | 0, acc, s => (acc, s)
  | n + 1, acc, s => if (readC s).2.1 = [] then (acc ++ [(readC s).1], (readC s).2) else splitF n (acc ++ [(readC s).1]) (readC s).2
def splitC (b : List Int) : List Chunk × Int :=
  if 200 < b.length then ([], 4) else if (splitF (b.length + 1) [] (b, 0)).2.2 = 0 then ((splitF (b.length + 1) [] (b, 0)).1, 0) else ([], (splitF (b.length + 1) [] (b, 0)).2.2)
theorem wrS_len (s : RdS) (x : Int) : (wrS s x).1.length ≤ s.1.length := by unfold wrS; split <;> simp
theorem tkS_len (s : RdS) (n : Int) : (tkS s n).1.length ≤ s.1.length := by
  show (tkL s.1 n).length ≤ _
  unfold tkL; simp
/-- A chunk takes at least a byte. -/
theorem readC_len (s : RdS) : (readC s).2.1.length ≤ s.1.length - 1 := by
  have h1 : (headC s).2.1.length ≤ s.1.length - 1 := by
    show (tkS (tkS (tkS s 1) 1) 2).1.length ≤ _
    have h1 := tkS_len (tkS (tkS s 1) 1) 2
    have h2 := tkS_len (tkS s 1) 1
    have h3 : (tkS s 1).1.length = s.1.length - 1 := by
      show (tkL s.1 1).length = _
      unfold tkL; simp
    omega
  have h2 : (formC (headC s).1.1 (headC s).2).1.length ≤ (headC s).2.1.length := by
    unfold formC; split
    · exact wrS_len _ _
    · exact Nat.le_refl _
  have h3 : ∀ f t n s, (bodyC f t n s).2.1.length ≤ s.1.length := by
    intro f t n s
    have := tkS_len s (4 * n)
    unfold bodyC; split
    · exact this
    · simp only
      split
      · exact Nat.le_trans (wrS_len _ _) this
      · exact this
  exact Nat.le_trans (h3 _ _ _ _) (Nat.le_trans h2 h1)
/-- What holds where the loop begins. -/
structure SplitJ (w0 w : World) (R B0 : Nat) (C : Nat → Prop) (b : List Int) (v : Value) (acc : List Chunk) (s : RdS) : Prop where
  rd : ReaderAt w R s.1 s.2 C
  row : RowP 3 RChunk (fun k => k = R) w B0 30 v acc
  more : More w0 w
  len : acc.length + s.1.length ≤ b.length
  ans : ∃ n, s.1.length < n ∧ splitF n acc s = splitF (b.length + 1) [] (b, 0)
  hR : w0.heap.size ≤ R
  RB : R < B0
  BW : B0 ≤ w.heap.size
  CB : ∀ g, C g → g < B0
theorem SplitJ.body {w0 w w6 w8 : World} {R B0 : Nat} {C : Nat → Prop} {b : List Int} {v v' : Value} {acc : List Chunk} {s : RdS} {o : Obj} (h : SplitJ w0 w R B0 C b v acc s)
    (r6 : ReaderAt w6 R (readC s).2.1 (readC s).2.2 C) (a6 : Away (fun b => b = R) w w6) (ho : RowP 3 RChunk (fun k => k = R) w8 B0 30 v' (acc ++ [(readC s).1])) (hg : (w6.alloc o).grownBy w8 v.ownBlock) :
    ReaderAt w8 R (readC s).2.1 (readC s).2.2 C ∧ More w0 w8 ∧ B0 ≤ w8.heap.size := by
  have hv : ∀ g, v.ownBlock = some g → B0 ≤ g := fun g e => h.row.ge e
  have m6 : More w0 (w6.alloc o) := (rd_more a6 h.more h.hR).al o
  have aw : Away (fun k => v.ownBlock = some k) (w6.alloc o) w8 := ⟨hg.os, hg.tape, hg.output, hg.size, fun k hk hs => hg.block k hk (fun e => hs e.symm)⟩
  have hw := h.more.size
  have hb := h.BW
  refine ⟨(r6.more (More.alloc w6 o)).off aw (fun e => ?_) (fun g hC e => ?_), Away.to_more m6 aw (fun k e => ?_), Nat.le_trans h.BW (Nat.le_trans a6.size (Nat.le_trans (More.alloc w6 o).size hg.size))⟩
  · have := hv R e; have := h.RB; omega
  · have := hv g e; have := h.CB g hC; omega
  · have := hv k e; have := h.RB; have := h.hR; omega
theorem SplitJ.next {w0 w w8 : World} {R B0 : Nat} {C : Nat → Prop} {b : List Int} {v v' : Value} {acc : List Chunk} {s : RdS} (h : SplitJ w0 w R B0 C b v acc s)
    (ho : RowP 3 RChunk (fun k => k = R) w8 B0 30 v' (acc ++ [(readC s).1])) (hx : ReaderAt w8 R (readC s).2.1 (readC s).2.2 C ∧ More w0 w8 ∧ B0 ≤ w8.heap.size) (hne : ¬ (readC s).2.1 = []) :
    SplitJ w0 w8 R B0 C b v' (acc ++ [(readC s).1]) (readC s).2 := by
  have h1 := readC_len s
  have h2 := List.length_pos_iff.2 hne
  refine ⟨hx.1, ho, hx.2.1, ?_, ?_, h.hR, h.RB, hx.2.2, h.CB⟩
  · have := h.len; simp; omega
  · obtain ⟨n, hn, e⟩ := h.ans
    cases n with
    | zero => omega
    | succ n =>
      refine ⟨n, by omega, ?_⟩
      rw [← e, splitF, if_neg hne]
theorem SplitJ.stop {w0 w : World} {R B0 : Nat} {C : Nat → Prop} {b : List Int} {v : Value} {acc : List Chunk} {s : RdS} (h : SplitJ w0 w R B0 C b v acc s) (hb : ¬ 200 < b.length) (he : (readC s).2.1 = []) :
    splitC b = if (readC s).2.2 = 0 then (acc ++ [(readC s).1], 0) else ([], (readC s).2.2) := by
  obtain ⟨n, hn, e⟩ := h.ans
  cases n with
  | zero => omega
  | succ n =>
    rw [splitF, if_pos he] at e
    unfold splitC
    rw [if_neg hb, ← e]
theorem RdEnd_nil {w : World} {R : Nat} {e : Int} {C : Nat → Prop} (h : ReaderAt w R [] e C) :
    Calls Try.prog 81 #[.pointer (some ⟨R, 0, none⟩)] w fun e' w' => e' = .returned (.int .i64 e) ∧ w' = w := by
  refine (RdEnd_any h).mono ?_
  rintro e' w' ⟨rfl, rfl⟩
  refine ⟨?_, rfl⟩
  by_cases x : e = 0
  · rw [if_neg (by simp [x]), if_neg (by simp), x]
  · rw [if_pos x]
def lenOf : Value → Nat
  | .slice _ n _ => n
  | _ => 0
theorem split_apart {w0 w : World} {R B0 : Nat} {C : Nat → Prop} {b : List Int} {v vb : Value} {acc : List Chunk} {s : RdS} (h : SplitJ w0 w R B0 C b v acc s) (hg : ∀ g, vb.ownBlock = some g → w.heap.size ≤ g) (k : Nat) (hk : vb.ownBlock = some k) (hD : k = R ∨ v.ownBlock = some k) : False := by
  have h1 := hg k hk
  rcases hD with rfl | hD
  · have := h.RB; have := h.BW; omega
  · have := h.row.lt hD; omega
theorem split_lt {w0 w w6 : World} {R B0 : Nat} {C : Nat → Prop} {b : List Int} {v : Value} {acc : List Chunk} {s : RdS} {o : Obj} (h : SplitJ w0 w R B0 C b v acc s) (a : Away (fun b => b = R) w w6) {k : Nat} (hk : k = R) : k < (w6.alloc o).heap.size := by
  have := h.RB; have := h.BW; have := a.size; have := (More.alloc w6 o).size; omega
theorem split_base {w0 w w6 : World} {R B0 : Nat} {C : Nat → Prop} {b : List Int} {v : Value} {acc : List Chunk} {s : RdS} {o : Obj} (h : SplitJ w0 w R B0 C b v acc s) (a : Away (fun b => b = R) w w6) : B0 ≤ (w6.alloc o).heap.size := by
  have := h.BW; have := a.size; have := (More.alloc w6 o).size; omega
set_option maxHeartbeats 2000000 in
theorem Split_any (v : Value) (b : List Int) (w : World) (sl : SlI .u8 w v b) (hb : Byt b) (hl : b.length ≤ 1000000) :
    Calls Try.prog 123 #[v] w fun e w' => ∃ vl, e = .returned (.tuple #[vl, .int .i64 (splitC b).2]) ∧ SlP 3 RChunk w' vl (splitC b).1 ∧ More w w' := by
  obtain ⟨i0, hi, hz0, hz1, hz2⟩ := info_parts (P := Try.prog) (e := 30) (z := .agg #[.int .u8 0, .int .u8 0, .slice none 0 0]) (size := 3) (bytes := 32) (by kernel_rfl)
  have SL := Lib.hid sl
  obtain ⟨ob, cb, rfl, _⟩ := sl
  by_cases h200 : 200 < b.length
  · have hs : splitC b = ([], 4) := by unfold splitC; rw [if_pos h200]
    have HS := Lib.hid hs
    have hi2 : (200 : Int) < (b.length : Int) := by omega
    clear hs
    go_enter Try.func123, Try.ntmps123
    go_wp2
    go_step3
    go_wp2
    simp only [Exit.noGoto]
    (refine bodyPost_ret (v := .tuple #[.slice none 0 0, .int .i64 4]) ?rr1 rfl ?_; (case rr1 => (simp [results, Try.results123, go_sem])))
    exact ⟨_, by rw [HS.out], by rw [HS.out]; exact SlP.nil _ _ _, More.refl _⟩
  · have hi2 : ¬ (200 : Int) < (b.length : Int) := by omega
    have hb200 : b.length ≤ 200 := by omega
    go_enter Try.func123, Try.ntmps123
    go_wp2
    refine wp_scope_jumps 0 (fun a' w' => ∃ R B0 C ou nu cu acc s u1 u6 u7 u8 u9 u10 u11 u12 u13 u14 u15 u16 u17 u18 u19 u20 u21 u22 u23 u24 u25, a' = { tmps := #[.slice ob b.length cb, u1, .slice none 0 0, .int .i64 0, .pointer (some ⟨R, 0, none⟩), .slice ou nu cu, u6, u7, u8, u9, u10, u11, u12, u13, u14, u15, u16, u17, u18, u19, u20, u21, u22, u23, u24, u25], defers := [] } ∧ SplitJ w w' R B0 C b (.slice ou nu cu) acc s ∧ nu = acc.length) (fun a' _ => 300 - lenOf (a'.tmps.getD 5 undef)) rfl ?_ ?_
    · go_wp2_with (go_at_call 77; ((with_reducible refine (RdNew_in _ b w SL.out hb hl).mono ?_); rintro e w1 ⟨R, rfl, hR, hr1, hm1⟩))
      go_step3
      have HJ : Hid (SplitJ w w1 R w1.heap.size (fun g => w.heap.size ≤ g ∧ g < w1.heap.size) b (.slice none 0 0) [] (b, 0)) := Lib.hid ⟨hr1, RowP.nil _ _ _ _ _ _, hm1, by simp, ⟨b.length + 1, by simp, rfl⟩, hR, by obtain ⟨v, h1, _⟩ := hr1.blk; exact blk_lt h1, Nat.le_refl _, fun g h => h.2⟩
      have HA : Hid (([] : List Chunk).length = 0) := Lib.hid rfl
      obtain ⟨s, hs⟩ : ∃ s : RdS, s = (b, 0) := ⟨_, rfl⟩
      rw [← hs] at HJ
      obtain ⟨acc, ha⟩ : ∃ acc : List Chunk, acc = [] := ⟨_, rfl⟩
      rw [← ha] at HJ
      obtain ⟨B0, hB0⟩ : ∃ B0, B0 = w1.heap.size := ⟨_, rfl⟩
      obtain ⟨C, hC⟩ : ∃ C : Nat → Prop, C = fun g => w.heap.size ≤ g ∧ g < w1.heap.size := ⟨_, rfl⟩
      rw [← hC, ← hB0] at HJ
      clear hs ha hB0 hC hr1 hR
      have HNE : (readC s).2.1 = [] ∨ ¬ (readC s).2.1 = [] := Classical.em _
      rcases HNE with hne | hne
      · have hlen : ((readC s).2.1.length : Int) = 0 := by rw [hne]; rfl
        have hst := HJ.out.stop h200 hne
        have HST := Lib.hid hst
        have HNE := Lib.hid hne
        clear hst hne
        rcases Classical.em ((readC s).2.2 = 0) with he | he
        · have heb : ((readC s).2.2 != 0) = false := by simp [he]
          have HE := Lib.hid he
          clear he
          go_wp2_with first | (go_at_call 152; ((with_reducible refine (Read07_any HJ.out.rd).mono ?_); rintro e w6 ⟨⟨vb, rfl, sb, okb, gb⟩, r6, a6⟩; have HS := Lib.hid sb; have HK := Lib.hid okb; have HGB := Lib.hid gb; have H6 := Lib.hid r6; have A6 := Lib.hid a6; obtain ⟨ob6, cb6, rfl, _⟩ := sb; clear gb r6 okb a6)) | (at_builtin; refine wpList_append_row _ rfl (.tmp 12) (.tmp 15) 200 rfl B0 30 i0 (.agg #[.int .u8 0, .int .u8 0, .slice none 0 0]) 3 32 Try.underlying200 hi hz0 hz1 hz2 rfl (by decide) _ acc rfl ((HJ.out.row.step A6.out).on (More.alloc w6 (.cells #[.int .u8 (readC s).1.1, .int .u8 (readC s).1.2.1, .slice ob6 (readC s).1.2.2.1.length cb6] 30))) w6.heap.size [.int .u8 (readC s).1.1, .int .u8 (readC s).1.2.1, .slice ob6 (readC s).1.2.2.1.length cb6] (readC s).1 rfl rfl (new_cells rfl) (by simp [Value.oneCell']) (fun w' a' => chunk_mk ((HS.out.keep (More.alloc _ _)).off (fun b hb hD => split_apart HJ.out HGB.out b hb hD) a') HK.out) (fun b h => split_lt HJ.out A6.out h) (by decide) (by have := HJ.out.len; omega) (split_base HJ.out A6.out) ?_; intro v' w8 ho hg hb; have HX := Lib.hid ho; have HB := Lib.hid (HJ.out.body H6.out A6.out ho hg); obtain ⟨ou8, nu8, cu8, rfl, hz8, hz9⟩ := ho.shape; have HN8 := Lib.hid hz8; clear ho hg hb hz8 hz9) | (go_at_call 92; ((with_reducible refine (RdLeft_any HB.out.1).mono ?_); rintro e w9 ⟨rfl, rfl⟩)) | (go_at_call 81; ((with_reducible refine (RdEnd_nil (R := R) (e := (readC s).2.2) (C := C) (by (have := HB.out.1; rw [HNE.out] at this; exact this))).mono ?_); rintro e w10 ⟨rfl, rfl⟩))
          simp only [Exit.jump]
          (refine bodyPost_ret (v := .tuple #[.slice ou8 nu8 cu8, .int .i64 0]) ?rr2 rfl ?_; (case rr2 => (simp [results, Try.results123, go_sem])))
          exact ⟨_, by rw [HST.out, if_pos HE.out], by rw [HST.out, if_pos HE.out]; exact HX.out.sl (by decide), HB.out.2.1⟩
        · have heb : ((readC s).2.2 != 0) = true := by simpa using he
          have HE := Lib.hid he
          clear he
          go_wp2_with first | (go_at_call 152; ((with_reducible refine (Read07_any HJ.out.rd).mono ?_); rintro e w6 ⟨⟨vb, rfl, sb, okb, gb⟩, r6, a6⟩; have HS := Lib.hid sb; have HK := Lib.hid okb; have HGB := Lib.hid gb; have H6 := Lib.hid r6; have A6 := Lib.hid a6; obtain ⟨ob6, cb6, rfl, _⟩ := sb; clear gb r6 okb a6)) | (at_builtin; refine wpList_append_row _ rfl (.tmp 12) (.tmp 15) 200 rfl B0 30 i0 (.agg #[.int .u8 0, .int .u8 0, .slice none 0 0]) 3 32 Try.underlying200 hi hz0 hz1 hz2 rfl (by decide) _ acc rfl ((HJ.out.row.step A6.out).on (More.alloc w6 (.cells #[.int .u8 (readC s).1.1, .int .u8 (readC s).1.2.1, .slice ob6 (readC s).1.2.2.1.length cb6] 30))) w6.heap.size [.int .u8 (readC s).1.1, .int .u8 (readC s).1.2.1, .slice ob6 (readC s).1.2.2.1.length cb6] (readC s).1 rfl rfl (new_cells rfl) (by simp [Value.oneCell']) (fun w' a' => chunk_mk ((HS.out.keep (More.alloc _ _)).off (fun b hb hD => split_apart HJ.out HGB.out b hb hD) a') HK.out) (fun b h => split_lt HJ.out A6.out h) (by decide) (by have := HJ.out.len; omega) (split_base HJ.out A6.out) ?_; intro v' w8 ho hg hb; have HX := Lib.hid ho; have HB := Lib.hid (HJ.out.body H6.out A6.out ho hg); obtain ⟨ou8, nu8, cu8, rfl, hz8, hz9⟩ := ho.shape; have HN8 := Lib.hid hz8; clear ho hg hb hz8 hz9) | (go_at_call 92; ((with_reducible refine (RdLeft_any HB.out.1).mono ?_); rintro e w9 ⟨rfl, rfl⟩)) | (go_at_call 81; ((with_reducible refine (RdEnd_nil (R := R) (e := (readC s).2.2) (C := C) (by (have := HB.out.1; rw [HNE.out] at this; exact this))).mono ?_); rintro e w10 ⟨rfl, rfl⟩))
          simp only [Exit.jump]
          (refine bodyPost_ret (v := .tuple #[.slice none 0 0, .int .i64 (readC s).2.2]) ?rr3 rfl ?_; (case rr3 => (simp [results, Try.results123, go_sem])))
          exact ⟨_, by rw [HST.out, if_neg HE.out], by rw [HST.out, if_neg HE.out]; exact SlP.nil _ _ _, HB.out.2.1⟩
      · have hlen : (0 : Int) < ((readC s).2.1.length : Int) := by have := List.length_pos_iff.2 hne; omega
        have HNE := Lib.hid hne
        clear hne
        go_wp2_with first | (go_at_call 152; ((with_reducible refine (Read07_any HJ.out.rd).mono ?_); rintro e w6 ⟨⟨vb, rfl, sb, okb, gb⟩, r6, a6⟩; have HS := Lib.hid sb; have HK := Lib.hid okb; have HGB := Lib.hid gb; have H6 := Lib.hid r6; have A6 := Lib.hid a6; obtain ⟨ob6, cb6, rfl, _⟩ := sb; clear gb r6 okb a6)) | (at_builtin; refine wpList_append_row _ rfl (.tmp 12) (.tmp 15) 200 rfl B0 30 i0 (.agg #[.int .u8 0, .int .u8 0, .slice none 0 0]) 3 32 Try.underlying200 hi hz0 hz1 hz2 rfl (by decide) _ acc rfl ((HJ.out.row.step A6.out).on (More.alloc w6 (.cells #[.int .u8 (readC s).1.1, .int .u8 (readC s).1.2.1, .slice ob6 (readC s).1.2.2.1.length cb6] 30))) w6.heap.size [.int .u8 (readC s).1.1, .int .u8 (readC s).1.2.1, .slice ob6 (readC s).1.2.2.1.length cb6] (readC s).1 rfl rfl (new_cells rfl) (by simp [Value.oneCell']) (fun w' a' => chunk_mk ((HS.out.keep (More.alloc _ _)).off (fun b hb hD => split_apart HJ.out HGB.out b hb hD) a') HK.out) (fun b h => split_lt HJ.out A6.out h) (by decide) (by have := HJ.out.len; omega) (split_base HJ.out A6.out) ?_; intro v' w8 ho hg hb; have HX := Lib.hid ho; have HB := Lib.hid (HJ.out.body H6.out A6.out ho hg); obtain ⟨ou8, nu8, cu8, rfl, hz8, hz9⟩ := ho.shape; have HN8 := Lib.hid hz8; clear ho hg hb hz8 hz9) | (go_at_call 92; ((with_reducible refine (RdLeft_any HB.out.1).mono ?_); rintro e w9 ⟨rfl, rfl⟩))
        go_step3
        exact ⟨rfl, R, B0, C, ou8, nu8, cu8, _, _, _, _, _, _, _, _, _, _, _, _, _, _, _, _, _, _, _, _, _, _, _, rfl, HJ.out.next HX.out HB.out HNE.out, HN8.out⟩
    · rintro a' w' ⟨R, B0, C, ou, nu, cu, acc, s, u1, u6, u7, u8, u9, u10, u11, u12, u13, u14, u15, u16, u17, u18, u19, u20, u21, u22, u23, u24, u25, rfl, hj, hnu⟩
      have HJ := Lib.hid hj
      have HNU := Lib.hid hnu
      clear hj hnu
      have HNE : (readC s).2.1 = [] ∨ ¬ (readC s).2.1 = [] := Classical.em _
      rcases HNE with hne | hne
      · have hlen : ((readC s).2.1.length : Int) = 0 := by rw [hne]; rfl
        have hst := HJ.out.stop h200 hne
        have HST := Lib.hid hst
        have HNE := Lib.hid hne
        clear hst hne
        rcases Classical.em ((readC s).2.2 = 0) with he | he
        · have heb : ((readC s).2.2 != 0) = false := by simp [he]
          have HE := Lib.hid he
          clear he
          go_wp2_with first | (go_at_call 152; ((with_reducible refine (Read07_any HJ.out.rd).mono ?_); rintro e w6 ⟨⟨vb, rfl, sb, okb, gb⟩, r6, a6⟩; have HS := Lib.hid sb; have HK := Lib.hid okb; have HGB := Lib.hid gb; have H6 := Lib.hid r6; have A6 := Lib.hid a6; obtain ⟨ob6, cb6, rfl, _⟩ := sb; clear gb r6 okb a6)) | (at_builtin; refine wpList_append_row _ rfl (.tmp 12) (.tmp 15) 200 rfl B0 30 i0 (.agg #[.int .u8 0, .int .u8 0, .slice none 0 0]) 3 32 Try.underlying200 hi hz0 hz1 hz2 rfl (by decide) _ acc rfl ((HJ.out.row.step A6.out).on (More.alloc w6 (.cells #[.int .u8 (readC s).1.1, .int .u8 (readC s).1.2.1, .slice ob6 (readC s).1.2.2.1.length cb6] 30))) w6.heap.size [.int .u8 (readC s).1.1, .int .u8 (readC s).1.2.1, .slice ob6 (readC s).1.2.2.1.length cb6] (readC s).1 rfl rfl (new_cells rfl) (by simp [Value.oneCell']) (fun w' a' => chunk_mk ((HS.out.keep (More.alloc _ _)).off (fun b hb hD => split_apart HJ.out HGB.out b hb hD) a') HK.out) (fun b h => split_lt HJ.out A6.out h) (by decide) (by have := HJ.out.len; omega) (split_base HJ.out A6.out) ?_; intro v' w8 ho hg hb; have HX := Lib.hid ho; have HB := Lib.hid (HJ.out.body H6.out A6.out ho hg); obtain ⟨ou8, nu8, cu8, rfl, hz8, hz9⟩ := ho.shape; have HN8 := Lib.hid hz8; clear ho hg hb hz8 hz9) | (go_at_call 92; ((with_reducible refine (RdLeft_any HB.out.1).mono ?_); rintro e w9 ⟨rfl, rfl⟩)) | (go_at_call 81; ((with_reducible refine (RdEnd_nil (R := R) (e := (readC s).2.2) (C := C) (by (have := HB.out.1; rw [HNE.out] at this; exact this))).mono ?_); rintro e w10 ⟨rfl, rfl⟩))
          simp only [Exit.jump]
          (refine bodyPost_ret (v := .tuple #[.slice ou8 nu8 cu8, .int .i64 0]) ?rr4 rfl ?_; (case rr4 => (simp [results, Try.results123, go_sem])))
          exact ⟨_, by rw [HST.out, if_pos HE.out], by rw [HST.out, if_pos HE.out]; exact HX.out.sl (by decide), HB.out.2.1⟩
        · have heb : ((readC s).2.2 != 0) = true := by simpa using he
          have HE := Lib.hid he
          clear he
          go_wp2_with first | (go_at_call 152; ((with_reducible refine (Read07_any HJ.out.rd).mono ?_); rintro e w6 ⟨⟨vb, rfl, sb, okb, gb⟩, r6, a6⟩; have HS := Lib.hid sb; have HK := Lib.hid okb; have HGB := Lib.hid gb; have H6 := Lib.hid r6; have A6 := Lib.hid a6; obtain ⟨ob6, cb6, rfl, _⟩ := sb; clear gb r6 okb a6)) | (at_builtin; refine wpList_append_row _ rfl (.tmp 12) (.tmp 15) 200 rfl B0 30 i0 (.agg #[.int .u8 0, .int .u8 0, .slice none 0 0]) 3 32 Try.underlying200 hi hz0 hz1 hz2 rfl (by decide) _ acc rfl ((HJ.out.row.step A6.out).on (More.alloc w6 (.cells #[.int .u8 (readC s).1.1, .int .u8 (readC s).1.2.1, .slice ob6 (readC s).1.2.2.1.length cb6] 30))) w6.heap.size [.int .u8 (readC s).1.1, .int .u8 (readC s).1.2.1, .slice ob6 (readC s).1.2.2.1.length cb6] (readC s).1 rfl rfl (new_cells rfl) (by simp [Value.oneCell']) (fun w' a' => chunk_mk ((HS.out.keep (More.alloc _ _)).off (fun b hb hD => split_apart HJ.out HGB.out b hb hD) a') HK.out) (fun b h => split_lt HJ.out A6.out h) (by decide) (by have := HJ.out.len; omega) (split_base HJ.out A6.out) ?_; intro v' w8 ho hg hb; have HX := Lib.hid ho; have HB := Lib.hid (HJ.out.body H6.out A6.out ho hg); obtain ⟨ou8, nu8, cu8, rfl, hz8, hz9⟩ := ho.shape; have HN8 := Lib.hid hz8; clear ho hg hb hz8 hz9) | (go_at_call 92; ((with_reducible refine (RdLeft_any HB.out.1).mono ?_); rintro e w9 ⟨rfl, rfl⟩)) | (go_at_call 81; ((with_reducible refine (RdEnd_nil (R := R) (e := (readC s).2.2) (C := C) (by (have := HB.out.1; rw [HNE.out] at this; exact this))).mono ?_); rintro e w10 ⟨rfl, rfl⟩))
          simp only [Exit.jump]
          (refine bodyPost_ret (v := .tuple #[.slice none 0 0, .int .i64 (readC s).2.2]) ?rr5 rfl ?_; (case rr5 => (simp [results, Try.results123, go_sem])))
          exact ⟨_, by rw [HST.out, if_neg HE.out], by rw [HST.out, if_neg HE.out]; exact SlP.nil _ _ _, HB.out.2.1⟩
      · have hlen : (0 : Int) < ((readC s).2.1.length : Int) := by have := List.length_pos_iff.2 hne; omega
        have HNE := Lib.hid hne
        clear hne
        go_wp2_with first | (go_at_call 152; ((with_reducible refine (Read07_any HJ.out.rd).mono ?_); rintro e w6 ⟨⟨vb, rfl, sb, okb, gb⟩, r6, a6⟩; have HS := Lib.hid sb; have HK := Lib.hid okb; have HGB := Lib.hid gb; have H6 := Lib.hid r6; have A6 := Lib.hid a6; obtain ⟨ob6, cb6, rfl, _⟩ := sb; clear gb r6 okb a6)) | (at_builtin; refine wpList_append_row _ rfl (.tmp 12) (.tmp 15) 200 rfl B0 30 i0 (.agg #[.int .u8 0, .int .u8 0, .slice none 0 0]) 3 32 Try.underlying200 hi hz0 hz1 hz2 rfl (by decide) _ acc rfl ((HJ.out.row.step A6.out).on (More.alloc w6 (.cells #[.int .u8 (readC s).1.1, .int .u8 (readC s).1.2.1, .slice ob6 (readC s).1.2.2.1.length cb6] 30))) w6.heap.size [.int .u8 (readC s).1.1, .int .u8 (readC s).1.2.1, .slice ob6 (readC s).1.2.2.1.length cb6] (readC s).1 rfl rfl (new_cells rfl) (by simp [Value.oneCell']) (fun w' a' => chunk_mk ((HS.out.keep (More.alloc _ _)).off (fun b hb hD => split_apart HJ.out HGB.out b hb hD) a') HK.out) (fun b h => split_lt HJ.out A6.out h) (by decide) (by have := HJ.out.len; omega) (split_base HJ.out A6.out) ?_; intro v' w8 ho hg hb; have HX := Lib.hid ho; have HB := Lib.hid (HJ.out.body H6.out A6.out ho hg); obtain ⟨ou8, nu8, cu8, rfl, hz8, hz9⟩ := ho.shape; have HN8 := Lib.hid hz8; clear ho hg hb hz8 hz9) | (go_at_call 92; ((with_reducible refine (RdLeft_any HB.out.1).mono ?_); rintro e w9 ⟨rfl, rfl⟩))
        go_step3
        exact ⟨rfl, ⟨R, B0, C, ou8, nu8, cu8, _, _, _, _, _, _, _, _, _, _, _, _, _, _, _, _, _, _, _, _, _, _, _, rfl, HJ.out.next HX.out HB.out HNE.out, HN8.out⟩, by have := HN8.out; have := HJ.out.len; have := HNU.out; simp [lenOf] at *; omega⟩
end Go.Proofs.Ytlnikmcimmnbmaa
