/- Merged from my texts HeadD. -/
import Derived.Test.YtdgmmffedhikcaaMg30
import Derived.Deep.Cut
import Derived.Deep.CutRange
import Derived.Deep.CutBlock
/- Packets are read: Read. -/
namespace Go.Proofs.Ytdgmmffedhikcaa
set_option linter.unusedSimpArgs false
set_option linter.unusedVariables false
open Go.RowKit
set_option maxRecDepth 100000

/-- The row of Sources grows, and is laid into the packet. -/
theorem HdS.grow {w0 w w' : World} {R hi Br Bd : Nat} {s : RdS} {q : Pk} {vs v' : Value} {l : List Int} (h : HdS w0 w R hi Br Bd s q vs (.slice none 0 0) (.slice none 0 0)) (he : q.ex = []) (hp : q.pl = []) (ho : w'.ownsRow (Bd + 1) 22 1 v' l.length (l.map (Value.int .u32))) (g : w.grownBy w' vs.ownBlock) :
    HdS w0 (w'.setCell ⟨Bd, 5, none⟩ v') R hi Br Bd s { q with ss := l } v' (.slice none 0 0) (.slice none 0 0) := by
  have h0 := h.n0; have h1 := h.nR; have h2 := h.n1; have h5 := h.n5
  have hge : ∀ z, vs.ownBlock = some z → Bd + 1 ≤ z := fun z hz => owns_ge h.rs hz
  have aG : Away (fun z => vs.ownBlock = some z) w w' := ⟨g.os, g.tape, g.output, g.size, fun k hk hs => g.block k hk (fun e => hs e.symm)⟩
  have a : Away (fun b => b = Bd) w' (w'.setCell ⟨Bd, 5, none⟩ v') := (Away.refl (fun b => b = Bd) w').set (p := ⟨Bd, 5, none⟩) rfl _
  have hR : ¬ vs.ownBlock = some R := fun e => by have := hge R e; omega
  have hBr : ¬ vs.ownBlock = some Br := fun e => by have := hge Br e; omega
  have hBd : ¬ vs.ownBlock = some Bd := fun e => by have := hge Bd e; omega
  refine ⟨(h.rd.off aG hR (fun z hz e => by have := hge z e; omega)).off a (by omega) (fun z hz e => by omega), ?_, a.blk (aG.blk h.br hBr) (by omega), blk_eq (blk_set (aG.blk h.bd hBd) 5 v') rfl, owns_away ho a (fun k hk => by omega), ?_, ?_, h.n0, h.nR, h.n1, h.n5⟩
  · exact (Away.to_more h.more aG (fun k hk => by have := hge k hk; omega)).st (p := ⟨Bd, 5, none⟩) (by show _ ≤ Bd; omega) _
  · show World.ownsRow _ _ _ _ _ q.ex.length (q.ex.map _)
    rw [he]; exact World.ownsRow_nil _ _ _ _
  · show World.ownsRow _ _ _ _ _ q.pl.length (q.pl.map _)
    rw [hp]; exact World.ownsRow_nil _ _ _ _
theorem More.st10 {w0 w : World} (m : More w0 w) (B : Nat) (hB : w0.heap.size ≤ B) (v0 v1 v2 v3 v4 v5 v6 v7 v8 v9 : Value) :
    More w0 ((((((((((w.setCell ⟨B, 0, none⟩ v0).setCell ⟨B, 1, none⟩ v1).setCell ⟨B, 2, none⟩ v2).setCell ⟨B, 3, none⟩ v3).setCell ⟨B, 4, none⟩ v4).setCell ⟨B, 5, none⟩ v5).setCell ⟨B, 6, none⟩ v6).setCell ⟨B, 7, none⟩ v7).setCell ⟨B, 8, none⟩ v8).setCell ⟨B, 9, none⟩ v9) :=
  (((((((((m.st (p := ⟨B, 0, none⟩) hB v0).st (p := ⟨B, 1, none⟩) hB v1).st (p := ⟨B, 2, none⟩) hB v2).st (p := ⟨B, 3, none⟩) hB v3).st (p := ⟨B, 4, none⟩) hB v4).st (p := ⟨B, 5, none⟩) hB v5).st (p := ⟨B, 6, none⟩) hB v6).st (p := ⟨B, 7, none⟩) hB v7).st (p := ⟨B, 8, none⟩) hB v8).st (p := ⟨B, 9, none⟩) hB v9
theorem away_st10 (w : World) (B : Nat) (v0 v1 v2 v3 v4 v5 v6 v7 v8 v9 : Value) :
    Away (fun b => b = B) w ((((((((((w.setCell ⟨B, 0, none⟩ v0).setCell ⟨B, 1, none⟩ v1).setCell ⟨B, 2, none⟩ v2).setCell ⟨B, 3, none⟩ v3).setCell ⟨B, 4, none⟩ v4).setCell ⟨B, 5, none⟩ v5).setCell ⟨B, 6, none⟩ v6).setCell ⟨B, 7, none⟩ v7).setCell ⟨B, 8, none⟩ v8).setCell ⟨B, 9, none⟩ v9) :=
  ((((((((((Away.refl (fun b => b = B) w).set (p := ⟨B, 0, none⟩) rfl v0).set (p := ⟨B, 1, none⟩) rfl v1).set (p := ⟨B, 2, none⟩) rfl v2).set (p := ⟨B, 3, none⟩) rfl v3).set (p := ⟨B, 4, none⟩) rfl v4).set (p := ⟨B, 5, none⟩) rfl v5).set (p := ⟨B, 6, none⟩) rfl v6).set (p := ⟨B, 7, none⟩) rfl v7).set (p := ⟨B, 8, none⟩) rfl v8).set (p := ⟨B, 9, none⟩) rfl v9
theorem tk_all (l : List Int) (e : Int) : tkB l (l.length : Int) = l ∧ tkL l (l.length : Int) = [] ∧ tkE l (l.length : Int) e = e := by
  refine ⟨?_, ?_, ?_⟩
  · unfold tkB; simp
  · unfold tkL; simp
  · unfold tkE; rw [if_neg (by omega)]
theorem owns_small {w : World} {base e : Nat} {v : Value} {xs : List Value} {n : Nat} (h : w.ownsRow base e 1 v n xs) : (n : Int) ≤ 9223372036854775807 := by
  rcases h.2 with ⟨-, rfl⟩ | ⟨g, cap, cur, -, -, -, h1, h2, -⟩
  · omega
  · unfold maxLen at h2; omega
theorem st10_blk {w : World} {B : Nat} {t : TypeId} {a0 a1 a2 a3 a4 a5 a6 a7 a8 a9 : Value} (h : w.heap[B]? = some (.cells #[a0, a1, a2, a3, a4, a5, a6, a7, a8, a9] t (0, 0))) (v0 v1 v2 v3 v4 v5 v6 v7 v8 v9 : Value) :
    ((((((((((w.setCell ⟨B, 0, none⟩ v0).setCell ⟨B, 1, none⟩ v1).setCell ⟨B, 2, none⟩ v2).setCell ⟨B, 3, none⟩ v3).setCell ⟨B, 4, none⟩ v4).setCell ⟨B, 5, none⟩ v5).setCell ⟨B, 6, none⟩ v6).setCell ⟨B, 7, none⟩ v7).setCell ⟨B, 8, none⟩ v8).setCell ⟨B, 9, none⟩ v9).heap[B]? = some (.cells #[v0, v1, v2, v3, v4, v5, v6, v7, v8, v9] t (0, 0)) :=
  by
  have h := blk_eq (cs' := #[v0, a1, a2, a3, a4, a5, a6, a7, a8, a9]) (blk_set h 0 v0) rfl
  have h := blk_eq (cs' := #[v0, v1, a2, a3, a4, a5, a6, a7, a8, a9]) (blk_set h 1 v1) rfl
  have h := blk_eq (cs' := #[v0, v1, v2, a3, a4, a5, a6, a7, a8, a9]) (blk_set h 2 v2) rfl
  have h := blk_eq (cs' := #[v0, v1, v2, v3, a4, a5, a6, a7, a8, a9]) (blk_set h 3 v3) rfl
  have h := blk_eq (cs' := #[v0, v1, v2, v3, v4, a5, a6, a7, a8, a9]) (blk_set h 4 v4) rfl
  have h := blk_eq (cs' := #[v0, v1, v2, v3, v4, v5, a6, a7, a8, a9]) (blk_set h 5 v5) rfl
  have h := blk_eq (cs' := #[v0, v1, v2, v3, v4, v5, v6, a7, a8, a9]) (blk_set h 6 v6) rfl
  have h := blk_eq (cs' := #[v0, v1, v2, v3, v4, v5, v6, v7, a8, a9]) (blk_set h 7 v7) rfl
  have h := blk_eq (cs' := #[v0, v1, v2, v3, v4, v5, v6, v7, v8, a9]) (blk_set h 8 v8) rfl
  have h := blk_eq (cs' := #[v0, v1, v2, v3, v4, v5, v6, v7, v8, v9]) (blk_set h 9 v9) rfl
  exact h
def ReadPost (r : Pk × Int) (w : World) (e : Ending) (w' : World) : Prop :=
  ∃ vs ve vp, e = .returned (.tuple #[.agg #[.bool r.1.mr, .int .u8 r.1.ty, .int .u16 r.1.sq, .int .u32 r.1.st, .int .u32 r.1.sc, vs, .bool r.1.has, .int .u16 r.1.pr, ve, vp], .int .i64 r.2]) ∧ PkS w' vs ve vp r.1 ∧ More w w'
def ReadPostN (r : Pk × Int) (w : World) (e : Ending) (w' : World) : Prop :=
  ∃ vs ve vp, e = .returned (.tuple #[.agg #[.bool r.1.mr, .int .u8 r.1.ty, .int .u16 r.1.sq, .int .u32 r.1.st, .int .u32 r.1.sc, vs, .bool r.1.has, .int .u16 r.1.pr, ve, vp], .int .i64 r.2]) ∧ PkS w' vs ve vp r.1 ∧ More w w' ∧ ∀ b, (vs.ownBlock = some b ∨ ve.ownBlock = some b ∨ vp.ownBlock = some b) → w.heap.size ≤ b
theorem ReadPostN.post {r : Pk × Int} {w w' : World} {e : Ending} (h : ReadPostN r w e w') : ReadPost r w e w' := by
  obtain ⟨vs, ve, vp, h1, h2, h3, _⟩ := h
  exact ⟨vs, ve, vp, h1, h2, h3⟩
theorem none_new {w : World} (b : Nat) (h : (Value.slice none 0 0).ownBlock = some b ∨ (Value.slice none 0 0).ownBlock = some b ∨ (Value.slice none 0 0).ownBlock = some b) : w.heap.size ≤ b := by
  rcases h with h | h | h <;> cases h
theorem numU {s : RdS} (h : Byt s.1) (k : Nat) (hk : k ≤ 4) : 0 ≤ num (tkB s.1 k) ∧ num (tkB s.1 k) < 2 ^ (8 * k) := num_lt (tkB s.1 k) k (tkB_byt h k) (tkB_len s.1 k (by omega)) (by omega)
/-- Behind the padding: what went wrong, what is kept. -/
def s9H (f : Int) (s : RdS) : RdS := if bit f 32 then (if (unpadH s.1).2 then ([], s.2) else wrS ([], s.2) 2) else ([], s.2)
def l9H (f : Int) (s : RdS) : List Int := if bit f 32 then (unpadH s.1).1 else s.1
theorem s9H_pad {f : Int} {s : RdS} (h : Shut s) : (s9H f s).2 = (padH f s).2 ∧ (s9H f s).1 = [] ∧ ((padH f s).2 = 0 → l9H f s = (padH f s).1) := by
  obtain ⟨l, e⟩ := s
  unfold s9H padH l9H bit
  by_cases he : e = 0
  · subst he
    by_cases h1 : f / 32 % 2 = 1
    · simp only [h1, decide_true, if_true, not_true, if_false]
      by_cases h2 : (unpadH l).2 = true
      · simp [h2]
      · simp only [h2]
        unfold wrS
        simp
    · simp [h1]
  · have hl : l = [] := h he
    subst hl
    by_cases h1 : f / 32 % 2 = 1
    · have hu : (unpadH []).2 = false := rfl
      simp [h1, hu, wrS, he]
    · simp [h1, he]
set_option maxHeartbeats 1000000 in
theorem ReadH_longN (v : Value) (b : List Int) (w : World) (sl : SlI .u8 w v b) (hl : (200 : Int) < b.length) :
    Calls Try.prog 24 #[v] w (ReadPostN (readH b) w) := by
  have e : readH b = (pk0, 4) := by unfold readH; rw [if_pos hl]
  rw [e]
  obtain ⟨ob, cb, rfl, _⟩ := sl
  clear e
  go_enter Try.func24, Try.ntmps24
  go_wp2
  (refine bodyPost_ret (v := .tuple #[.agg #[.bool false, .int .u8 0, .int .u16 0, .int .u32 0, .int .u32 0, .slice none 0 0, .bool false, .int .u16 0, .slice none 0 0, .slice none 0 0], .int .i64 4]) ?rr1 rfl ?_; (case rr1 => (simp [results, Try.results24, go_sem])))
  refine ⟨.slice none 0 0, .slice none 0 0, .slice none 0 0, rfl, ⟨SlI.nil _ _, SlI.nil _ _, SlI.nil _ _⟩, ?_, none_new⟩
  exact More.alloc _ _
set_option maxHeartbeats 8000000 in
theorem ReadH_shortN (v : Value) (b : List Int) (w : World) (sl : SlI .u8 w v b) (hb : Byt b) (hl : ¬ (200 : Int) < b.length) :
    Calls Try.prog 24 #[v] w (ReadPostN (readH b) w) := by
  obtain ⟨i0, hi', hz0, hz1, hz2⟩ := info_parts (P := Try.prog) (e := 22) (z := .int .u32 0) (size := 1) (bytes := 4) (by kernel_rfl)
  have SL := Lib.hid (sl.keep (More.alloc w (.cells #[.bool false, .int .u8 0, .int .u16 0, .int .u32 0, .int .u32 0, .slice none 0 0, .bool false, .int .u16 0, .slice none 0 0, .slice none 0 0] 39)))
  have hrd : readH b = endH b (restH (fH b) (formH (fH b) (s5H b))) := by unfold readH; rw [if_neg hl]
  have b1 : Byt (s1H b).1 := hb.drop _
  have b2 : Byt (s2H b).1 := b1.drop _
  have b3 : Byt (s3H b).1 := b2.drop _
  have b4 : Byt (s4H b).1 := b3.drop _
  have u1 := numU (s := (b, 0)) hb 1 (by decide)
  have u2 := numU b1 1 (by decide)
  have u3 := numU b2 2 (by decide)
  have u4 := numU b3 4 (by decide)
  have u5 := numU b4 4 (by decide)
  obtain ⟨f, hf⟩ : ∃ f, fH b = f := ⟨_, rfl⟩
  obtain ⟨g, hg⟩ : ∃ g, gH b = g := ⟨_, rfl⟩
  obtain ⟨sq, hsq⟩ : ∃ x, num (tkB (s2H b).1 2) = x := ⟨_, rfl⟩
  obtain ⟨st, hst⟩ : ∃ x, num (tkB (s3H b).1 4) = x := ⟨_, rfl⟩
  obtain ⟨sc, hsc⟩ : ∃ x, num (tkB (s4H b).1 4) = x := ⟨_, rfl⟩
  have f0 : 0 ≤ f ∧ f ≤ 255 := by rw [← hf]; have h1 : num (tkB b 1) < 256 := u1.2; have h0 : 0 ≤ num (tkB b 1) := u1.1; unfold fH; omega
  have g0 : 0 ≤ g ∧ g ≤ 255 := by rw [← hg]; have h1 : num (tkB (s1H b).1 1) < 256 := u2.2; have h0 : 0 ≤ num (tkB (s1H b).1 1) := u2.1; unfold gH; omega
  have E1 : Hid (num (tkB b 1) = f) := Lib.hid hf
  have E2 : Hid (num (tkB (s1H b).1 1) = g) := Lib.hid hg
  have E3 := Lib.hid hsq
  have E4 := Lib.hid hst
  have E5 := Lib.hid hsc
  have hga := (and127' g0).1
  have hfa := (and127' f0).2
  have hfb := (andB2' f0).2.2.2
  have hfc := (andB2' f0).2.2.1
  have hmk : ∀ x l, mkH b x l = ⟨decide (128 ≤ g), g % 128, sq, st, sc, x.1, bit f 16, x.2.1, x.2.2, l⟩ := fun x l => by unfold mkH bit; rw [hf, hg, hsq, hst, hsc]
  have hen : ∀ x, endH b x = if (padH f x.2).2 = 0 then (mkH b x.1 (padH f x.2).1, 0) else (pk0, (padH f x.2).2) := fun x => by unfold endH; rw [hf]
  rw [hf] at hrd
  obtain ⟨S6, hS6⟩ : ∃ S6, formH f (s5H b) = S6 := ⟨_, rfl⟩
  have hsh6 : Shut S6 := by
    rw [← hS6]
    have h5 : Shut (s5H b) := by rw [s5H_adv]; exact adv_shut _ _
    unfold formH wrS
    split
    · split
      · exact h5
      · intro _; rfl
    · exact h5
  rw [hS6] at hrd
  rw [hrd, hen, hmk]
  obtain ⟨X, hX⟩ : ∃ X, restH f S6 = X := ⟨_, rfl⟩
  rw [hX]
  obtain ⟨⟨L7, P7, X7⟩, S8⟩ := X
  have hx0 : (L7 = (rdSs (f % 16).toNat S6).1) ∧ (bit f 16 = true → P7 = (extS (rdSs (f % 16).toNat S6).2).1.1 ∧ X7 = (extS (rdSs (f % 16).toNat S6).2).1.2 ∧ S8 = (extS (rdSs (f % 16).toNat S6).2).2) ∧ (bit f 16 = false → P7 = 0 ∧ X7 = [] ∧ S8 = (rdSs (f % 16).toNat S6).2) := by
    unfold restH at hX
    unfold bit
    by_cases h1 : f / 16 % 2 = 1
    · rw [if_pos h1] at hX
      cases hX
      simp [h1]
    · rw [if_neg h1] at hX
      cases hX
      simp [h1]
  clear hX
  have HS6 := Lib.hid hS6
  have HSH := Lib.hid hsh6
  obtain ⟨f0, f1⟩ := f0
  obtain ⟨g0, g1⟩ := g0
  have hs9t : bit f 32 = true → s9H f S8 = (if (unpadH S8.1).2 then ([], S8.2) else wrS ([], S8.2) 2) ∧ l9H f S8 = (unpadH S8.1).1 := fun h => by unfold s9H l9H; simp [h]
  have hs9f : bit f 32 = false → s9H f S8 = ([], S8.2) ∧ l9H f S8 = S8.1 := fun h => by unfold s9H l9H; simp [h]
  have hs9p := fun h => @s9H_pad f S8 h
  obtain ⟨S9, hS9⟩ : ∃ S9, s9H f S8 = S9 := ⟨_, rfl⟩
  obtain ⟨L9, hL9⟩ : ∃ L9, l9H f S8 = L9 := ⟨_, rfl⟩
  obtain ⟨FH, hFH⟩ : ∃ FH, bit f 16 = FH := ⟨_, rfl⟩
  obtain ⟨FP, hFP⟩ : ∃ FP, bit f 32 = FP := ⟨_, rfl⟩
  rw [hS9, hL9, hFP] at hs9t hs9f
  rw [hS9, hL9] at hs9p
  rw [hFH] at hx0 hfb ⊢
  rw [hFP] at hfc
  obtain ⟨PL, hPL⟩ : ∃ PL, (padH f S8).1 = PL := ⟨_, rfl⟩
  obtain ⟨PE, hPE⟩ : ∃ PE, (padH f S8).2 = PE := ⟨_, rfl⟩
  rw [hPL, hPE] at hs9p ⊢
  have H9T := Lib.hid hs9t
  have H9F := Lib.hid hs9f
  have H9P := Lib.hid hs9p
  clear hs9t hs9f hs9p hS9 hL9 hFH hFP hPL hPE
  obtain ⟨QR, hQR⟩ : ∃ QR : Pk × Int, (if PE = 0 then (Pk.mk (decide (128 ≤ g)) (g % 128) sq st sc L7 FH P7 X7 PL, (0 : Int)) else (pk0, PE)) = QR := ⟨_, rfl⟩
  rw [hQR]
  obtain ⟨ob, cb, rfl, -⟩ := sl
  have hgm : 0 ≤ g % 128 ∧ g % 128 ≤ 127 := by omega
  have hfm : 0 ≤ f % 16 ∧ f % 16 ≤ 15 := by omega
  obtain ⟨NS, hNS⟩ : ∃ NS : Nat, f % 16 = (NS : Int) := ⟨(f % 16).toNat, by omega⟩
  have hns15 : NS ≤ 15 := by omega
  have hnst : (f % 16).toNat = NS := by omega
  rw [hNS] at hfa
  rw [hnst] at hx0
  have HX0 := Lib.hid hx0
  clear hx0
  have HNST := Lib.hid hnst
  clear hrd b1 b2 b3 b4 u1 u2 u3 u4 u5 hf hg hsq hst hsc hmk hen hS6 hsh6 hfm hNS hnst
  obtain ⟨GM, hGM⟩ : ∃ GM, g % 128 = GM := ⟨_, rfl⟩
  rw [hGM] at hga hgm hQR
  have HQ := Lib.hid hQR
  clear hQR
  obtain ⟨gm0, gm1⟩ := hgm
  clear hGM
  have hb200 : b.length ≤ 1000000 := by omega
  go_enter Try.func24, Try.ntmps24
  go_upto_region 10 with (first | (go_at_call 58; ((with_reducible refine (RdNew_in _ b _ SL.out hb hb200).mono ?_); rintro e w2 ⟨R, rfl, hR, hr, hm⟩; have H0 := Lib.hid (HdS.begin rfl hR hr hm); clear hR hr hm)) | (go_at_call 59; ((with_reducible refine (RdByte_any H0.out.rd).mono ?_); rintro e w3 ⟨rfl, r3, a3⟩; rw [E1.out]; have H1 := Lib.hid (H0.out.step (s' := s1H b) r3 a3); clear r3 a3)) | (go_at_call 59; ((with_reducible refine (RdByte_any H1.out.rd).mono ?_); rintro e w4 ⟨rfl, r4, a4⟩; rw [E2.out]; have H2 := Lib.hid (H1.out.step (s' := s2H b) r4 a4); clear r4 a4; have x0 := blk_cell H2.out.bd 0 (v := .bool false) rfl; have z0 := blk_free H2.out.bd 0; have x1 := blk_cell H2.out.bd 1 (v := .int .u8 0) rfl; have z1 := blk_free H2.out.bd 1; have H3 : Hid (HdS w ((w4.setCell ⟨w2.heap.size, 0, none⟩ (.bool (decide (128 ≤ g)))).setCell ⟨w2.heap.size, 1, none⟩ (.int .u8 GM)) R w2.heap.size w.heap.size w2.heap.size (s2H b) ⟨(decide (128 ≤ g)), GM, 0, 0, 0, [], false, 0, [], []⟩ (.slice none 0 0) (.slice none 0 0) (.slice none 0 0)) := Lib.hid ((H2.out.scal 0 (.bool (decide (128 ≤ g))) ⟨(decide (128 ≤ g)), 0, 0, 0, 0, [], false, 0, [], []⟩ rfl rfl rfl rfl).scal 1 (.int .u8 GM) ⟨(decide (128 ≤ g)), GM, 0, 0, 0, [], false, 0, [], []⟩ rfl rfl rfl rfl))) | (go_at_call 60; ((with_reducible refine (RdShort_any H3.out.rd).mono ?_); rintro e w5 ⟨rfl, r5, a5⟩; rw [E3.out]; have H4 := Lib.hid (H3.out.step (s' := s3H b) r5 a5); clear r5 a5 x0 z0 x1 z1; have x2 := blk_cell H4.out.bd 2 (v := .int .u16 0) rfl; have z2 := blk_free H4.out.bd 2; have H5 : Hid (HdS w (w5.setCell ⟨w2.heap.size, 2, none⟩ (.int .u16 sq)) R w2.heap.size w.heap.size w2.heap.size (s3H b) ⟨(decide (128 ≤ g)), GM, sq, 0, 0, [], false, 0, [], []⟩ (.slice none 0 0) (.slice none 0 0) (.slice none 0 0)) := Lib.hid (H4.out.scal 2 (.int .u16 sq) ⟨(decide (128 ≤ g)), GM, sq, 0, 0, [], false, 0, [], []⟩ rfl rfl rfl rfl))) | (go_at_call 61; ((with_reducible refine (RdNum_any H5.out.rd).mono ?_); rintro e w6 ⟨rfl, r6, a6⟩; rw [E4.out]; have H6 := Lib.hid (H5.out.step (s' := s4H b) r6 a6); clear r6 a6 x2 z2; have x3 := blk_cell H6.out.bd 3 (v := .int .u32 0) rfl; have z3 := blk_free H6.out.bd 3; have H7 : Hid (HdS w (w6.setCell ⟨w2.heap.size, 3, none⟩ (.int .u32 st)) R w2.heap.size w.heap.size w2.heap.size (s4H b) ⟨(decide (128 ≤ g)), GM, sq, st, 0, [], false, 0, [], []⟩ (.slice none 0 0) (.slice none 0 0) (.slice none 0 0)) := Lib.hid (H6.out.scal 3 (.int .u32 st) ⟨(decide (128 ≤ g)), GM, sq, st, 0, [], false, 0, [], []⟩ rfl rfl rfl rfl))) | (go_at_call 61; ((with_reducible refine (RdNum_any H7.out.rd).mono ?_); rintro e w7 ⟨rfl, r7, a7⟩; rw [E5.out]; have H8 := Lib.hid (H7.out.step (s' := s5H b) r7 a7); clear r7 a7 x3 z3; have x4 := blk_cell H8.out.bd 4 (v := .int .u32 0) rfl; have z4 := blk_free H8.out.bd 4; have H9 : Hid (HdS w (w7.setCell ⟨w2.heap.size, 4, none⟩ (.int .u32 sc)) R w2.heap.size w.heap.size w2.heap.size (s5H b) ⟨(decide (128 ≤ g)), GM, sq, st, sc, [], false, 0, [], []⟩ (.slice none 0 0) (.slice none 0 0) (.slice none 0 0)) := Lib.hid (H8.out.scal 4 (.int .u32 sc) ⟨(decide (128 ≤ g)), GM, sq, st, sc, [], false, 0, [], []⟩ rfl rfl rfl rfl))))
  generalize w7.setCell ⟨w2.heap.size, 4, none⟩ (.int .u32 sc) = W9 at *
  generalize w2.heap.size = hi at *
  clear H0 H1 H2 H3 H4 H5 H6 H7 H8 x4 z4 SL E1 E2 E3 E4 E5
  obtain ⟨FB, fb1, fb2⟩ : ∃ FB : Bool, (FB = true → (f < 128 ∨ 191 < f)) ∧ (FB = false → ¬ (f < 128 ∨ 191 < f)) := ⟨decide (f < 128 ∨ 191 < f), fun h => by simpa using h, fun h => by simpa using h⟩
  have FB1 := Lib.hid fb1
  have FB2 := Lib.hid fb2
  clear fb1 fb2
  go_cut [46] from 41 (fun s46 wx => s46 = .bool FB ∧ wx = W9)
  case first =>
    cases FB with
    | true =>
      have hh := FB1.out (by simp)
      by_cases h1 : f < 128
      · clear hh
        go_wp2
        go_meet
        exact ⟨rfl, rfl⟩
      · have h2 : 191 < f := by omega
        clear hh
        go_wp2
        go_meet
        exact ⟨rfl, rfl⟩
    | false =>
      have hh := FB2.out (by simp)
      have h1 : ¬ f < 128 := by omega
      have h2 : ¬ 191 < f := by omega
      clear hh
      go_wp2
      go_meet
      exact ⟨rfl, rfl⟩
  case rest =>
  obtain ⟨rfl, rfl⟩ := hcut
  go_upto_if 46 with fail
  go_cut [] from 47 (fun wx => HdS w wx R hi w.heap.size hi S6 ⟨(decide (128 ≤ g)), GM, sq, st, sc, [], false, 0, [], []⟩ (.slice none 0 0) (.slice none 0 0) (.slice none 0 0))
  case first =>
    cases FB with
    | true =>
      have hS : formH f (s5H b) = wrS (s5H b) 2 := by unfold formH; rw [if_pos (FB1.out (by simp))]
      have HX := Lib.hid (HS6.out.symm.trans hS)
      clear hS
      go_wp2_with (go_at_call 62; ((with_reducible refine (RdWrong_any H9.out.rd 2).mono ?_); rintro e w10 ⟨rfl, r10, a10⟩; have H10 := Lib.hid (H9.out.step (s' := wrS (s5H b) 2) r10 a10); clear r10 a10))
      go_meet
      rw [HX.out]
      exact H10.out
    | false =>
      have hS : formH f (s5H b) = s5H b := by unfold formH; rw [if_neg (FB2.out (by simp))]
      have HX := Lib.hid (HS6.out.symm.trans hS)
      clear hS
      go_wp2
      go_meet
      rw [HX.out]
      exact H9.out
  case rest =>
  have HC := Lib.hid hcut
  clear hcut H9 FB1 FB2 HS6 HSH
  have hhi := Lib.hid (And.intro HC.out.n0 (And.intro HC.out.nR HC.out.n1))
  go_wp2
  go_loopw [51] (fun i wr => ∃ k : Nat, k ≤ NS ∧ i = .int .u8 k ∧ ∃ vs, HdS w wr R hi w.heap.size hi (rdSs k S6).2 ⟨(decide (128 ≤ g)), GM, sq, st, sc, (rdSs k S6).1, false, 0, [], []⟩ vs (.slice none 0 0) (.slice none 0 0)) (fun i _ => NS - (intOf i).toNat)
  case atStart => exact ⟨0, by omega, rfl, _, HC.out⟩
  case round =>
    obtain ⟨k, hk, rfl, vs, hwx⟩ := hrel
    have HW := Lib.hid hwx
    by_cases hlt : k < NS
    · have hki : (k : Int) < (NS : Int) := by omega
      have hj : ((k : Int) + 1) % 256 = (k : Int) + 1 := by omega
      have hll := rdSs_len k S6
      have HLL := Lib.hid hll
      obtain ⟨os, ns, cs, rfl, hns, _⟩ := slice_of_row hwx.rs
      subst hns
      have hbd : ¬ (hi = R ∨ (Value.slice os (rdSs k S6).1.length cs).ownBlock = some hi) := by
        rintro (e | e)
        · have := HW.out.n1; omega
        · have := owns_ge HW.out.rs e; omega
      have C5 : ∀ x : LaterS (fun b => b = R ∨ (Value.slice os (rdSs k S6).1.length cs).ownBlock = some b) wr, x.w'.cell? ⟨hi, 5, none⟩ = some (.slice os (rdSs k S6).1.length cs) := fun x => blk_cell (x.h.blk HW.out.bd hbd) 5 rfl
      clear hwx hll
      go_wp2_with fail
      refine wp_region_numS (fun b => b = R ∨ (Value.slice os (rdSs k S6).1.length cs).ownBlock = some b) wr 7 [(0, false), (1, false), (2, false), (3, true), (4, true), (5, true), (6, false), (7, true)] (by kernel_rfl) (by kernel_rfl) ?_
      iterate 3 (refine num_quiet rfl rfl (laterS_mk (by repeat (first | exact Away.refl _ _ | assumption | refine Away.drewN ?_ _ | refine Away.set ?_ (by first | rfl | exact Or.inl rfl | exact Or.inr rfl) _))) ?_; intro K hK; go_big_quiet_op; go_big_quiet_on)
      (refine num_next rfl rfl ?_; intro K hK; unfold loud; go_simp)
      refine (RdNum_any (HW.out.rd.more (More.drewN _ 1))).mono ?_
      rintro e w8 ⟨rfl, r8, a8⟩
      have a8' : Away (fun b => b = R ∨ (Value.slice os (rdSs k S6).1.length cs).ownBlock = some b) wr w8 := ((Away.refl _ _).drewN _).trans (a8.mono fun b h => Or.inl h)
      refine ⟨_, rfl, laterS_mk a8', hK _ _ ?_⟩
      clear hK K
      (refine num_next rfl rfl ?_; intro K hK; unfold loud; go_simp)
      have a9 := a8'.more (More.alloc w8 (.cells #[.int .u32 (num (tkB (rdSs k S6).2.1 4))] 22))
      refine ⟨laterS_mk a9, hK _ _ ?_⟩
      clear hK K
      have J8 := (HW.out.on (More.drewN wr 1)).step (s' := tkS (rdSs k S6).2 4) r8 a8
      have J9 := J8.on (More.alloc w8 (.cells #[.int .u32 (num (tkB (rdSs k S6).2.1 4))] 22))
      (refine num_next rfl rfl ?_; intro K hK)
      refine loud_append_sl (.tmp 54) (.tmp 57) 36 rfl (hi + 1) 22 i0 (.int .u32 0) 4 Try.underlying36 hi' hz0 hz1 hz2 rfl (.slice os (rdSs k S6).1.length cs) .u32 (rdSs k S6).1 rfl J9.rs (.slice (some ⟨w8.heap.size, 0, none⟩) 1 1) [num (tkB (rdSs k S6).2.1 4)] rfl (SlI.of_owns (World.ownsRow_lit (e := 22) (size := 1) (base := w8.heap.size) w8 #[.int .u32 (num (tkB (rdSs k S6).2.1 4))] 1 (Nat.le_refl _) (by unfold maxLen; omega) rfl) (by simp)) (by rw [HLL.out]; simp; omega) (by decide) (by have := blk_lt J9.bd; omega) ?_
      intro v10 w10 ho10 hg10 hb10
      have a10 : Away (fun b => b = R ∨ (Value.slice os (rdSs k S6).1.length cs).ownBlock = some b) wr w10 := a9.trans ⟨hg10.os, hg10.tape, hg10.output, hg10.size, fun k hk hs => hg10.block k hk (fun e => hs (Or.inr e.symm))⟩
      have J10 := Lib.hid (J9.grow rfl rfl ho10 hg10)
      have q5 : w10.cell? ⟨hi, 5, none⟩ = some (.slice os (rdSs k S6).1.length cs) := by
        have : w10.heap[hi]? = _ := (hg10.block hi (blk_lt J9.bd) (fun e => by have := owns_ge J9.rs e.symm; omega)).trans J9.bd
        exact blk_cell this 5 rfl
      have z5 : w10.frozen? ⟨hi, 5, none⟩ = false := by
        have : w10.heap[hi]? = _ := (hg10.block hi (blk_lt J9.bd) (fun e => by have := owns_ge J9.rs e.symm; omega)).trans J9.bd
        exact blk_free this 5
      obtain ⟨o10, n10, c10, rfl, hz8, hz9⟩ := slice_of_row ho10
      clear hz8 hz9 ho10 hg10 hb10
      refine ⟨laterS_mk a10, hK _ _ ?_⟩
      clear hK K
      go_simp
      iterate 1 (refine num_quiet rfl rfl (laterS_mk a10) ?_; intro K hK; go_big_quiet_op; go_big_quiet_on)
      (refine num_end rfl rfl (by decide) ?_; intro K hK; unfold loud; go_simp)
      refine hK _ _ ?_
      clear hK K
      refine num_nil ?_
      go_wp2
      go_roundw
      case rel => exact ⟨k + 1, by omega, by go_num, _, J10.out⟩
      case measure => simp [intOf]; omega
    · obtain rfl : k = NS := by omega
      have hki : ¬ (k : Int) < (k : Int) := by omega
      clear hwx HC hk hlt
      obtain ⟨hx1, hx2, hx3⟩ := HX0.out
      have hw := HW.out
      rw [← hx1] at hw
      obtain ⟨S7, hS7⟩ : ∃ S7, (rdSs k S6).2 = S7 := ⟨_, rfl⟩
      rw [hS7] at hw hx2 hx3
      have b7 := hw.rd.byt
      have u7 := numU (s := S7) b7 2 (by decide)
      have u8 := numU (s := tkS S7 2) (b7.drop _) 2 (by decide)
      unfold extS at hx2
      obtain ⟨N7, hN7⟩ : ∃ x, num (tkB S7.1 2) = x := ⟨_, rfl⟩
      obtain ⟨N8, hN8⟩ : ∃ x, num (tkB (tkS S7 2).1 2) = x := ⟨_, rfl⟩
      have u7 : 0 ≤ num (tkB S7.1 2) ∧ num (tkB S7.1 2) < 65536 := u7
      have u8 : 0 ≤ num (tkB (tkS S7 2).1 2) ∧ num (tkB (tkS S7 2).1 2) < 65536 := u8
      rw [hN7] at hx2 u7
      rw [hN8] at hx2 u8
      obtain ⟨u70, u71⟩ := u7
      obtain ⟨u80, u81⟩ := u8
      have EN7 := Lib.hid hN7
      have EN8 := Lib.hid hN8
      have HB := Lib.hid hw
      have HX2 := Lib.hid hx2
      have HX3 := Lib.hid hx3
      clear hw hx1 hx2 hx3 hS7 HW HX0 b7 hN7 hN8 HNST
      have x6 := blk_cell HB.out.bd 6 (v := .bool false) rfl
      have z6 := blk_free HB.out.bd 6
      have H1 : Hid (HdS w (wr.setCell ⟨hi, 6, none⟩ (.bool FH)) R hi w.heap.size hi S7 ⟨(decide (128 ≤ g)), GM, sq, st, sc, L7, FH, 0, [], []⟩ vs (.slice none 0 0) (.slice none 0 0)) := Lib.hid (HB.out.scal 6 (.bool FH) ⟨(decide (128 ≤ g)), GM, sq, st, sc, L7, FH, 0, [], []⟩ rfl rfl rfl rfl)
      go_upto_if 66 with fail
      go_cut [] from 67 (fun wx => ∃ ve, HdS w wx R hi w.heap.size hi S8 ⟨(decide (128 ≤ g)), GM, sq, st, sc, L7, FH, P7, X7, []⟩ vs ve (.slice none 0 0))
      case first =>
        cases FH with
        | false =>
          go_wp2
          go_meet
          obtain ⟨e1, e2, e3⟩ := HX3.out (by simp)
          rw [e1, e2, e3]
          exact ⟨_, H1.out⟩
        | true =>
          go_wp2_with (first             | (go_at_call 60; ((with_reducible refine (RdShort_any H1.out.rd).mono ?_); rintro e wa ⟨rfl, ra, aa⟩; rw [EN7.out]; have H2 := Lib.hid (H1.out.step (s' := tkS S7 2) ra aa); clear ra aa x6 z6; have x7 := blk_cell H2.out.bd 7 (v := .int .u16 0) rfl; have z7 := blk_free H2.out.bd 7; have H3 : Hid (HdS w (wa.setCell ⟨hi, 7, none⟩ (.int .u16 N7)) R hi w.heap.size hi (tkS S7 2) ⟨(decide (128 ≤ g)), GM, sq, st, sc, L7, true, N7, [], []⟩ vs (.slice none 0 0) (.slice none 0 0)) := Lib.hid (H2.out.scal 7 (.int .u16 N7) ⟨(decide (128 ≤ g)), GM, sq, st, sc, L7, true, N7, [], []⟩ rfl rfl rfl rfl)))             | (go_at_call 60; ((with_reducible refine (RdShort_any H3.out.rd).mono ?_); rintro e wb ⟨rfl, rb, ab⟩; rw [EN8.out]; have H4 := Lib.hid (H3.out.step (s' := tkS (tkS S7 2) 2) rb ab); clear rb ab x7 z7))             | (go_at_call 63; ((with_reducible refine (RdRaw_any (4 * N8) H4.out.rd).mono ?_); rintro e we ⟨v8, rfl, o8, rc, ac⟩; have H5 := Lib.hid (H4.out.step (s' := tkS (tkS (tkS S7 2) 2) (4 * N8)) rc ac); have O8 := Lib.hid (owns_down o8 (show hi + 1 ≤ wb.heap.size from by have := blk_lt H4.out.bd; omega)); clear rc ac o8; have x8 := blk_cell H5.out.bd 8 (v := .slice none 0 0) rfl; have z8 := blk_free H5.out.bd 8; obtain ⟨o8, n8, c8, rfl, -, -⟩ := slice_of_row O8.out)))
          go_meet
          obtain ⟨e1, e2, e3⟩ := HX2.out (by simp)
          rw [e1, e2, e3]
          exact ⟨_, H5.out.fill 8 (.slice o8 n8 c8) (q' := ⟨(decide (128 ≤ g)), GM, sq, st, sc, L7, true, N7, (tkB (tkS (tkS S7 2) 2).1 (4 * N8)), []⟩) rfl H5.out.rs O8.out H5.out.rp⟩
      case rest =>
        obtain ⟨ve, hc⟩ := hcut
        have HC := Lib.hid hc
        have hb8 := hc.rd.byt
        have hl8 := hc.rd.small
        have hsh := hc.rd.shut
        have HB8 := Lib.hid hb8
        have HP := Lib.hid (H9P.out hsh)
        clear hc H1 HB HX2 HX3 EN7 EN8 x6 z6 H9P hsh hb8
        go_upto_if 84 with (first           | (go_at_call 64; ((with_reducible refine (RdLeft_any HC.out.rd).mono ?_); rintro e wd ⟨rfl, rfl⟩))           | (go_at_call 63; ((with_reducible refine (RdRaw_any (S8.1.length : Int) HC.out.rd).mono ?_); rintro e we ⟨v9, rfl, o9, rd, ad⟩; rw [(tk_all S8.1 S8.2).1] at o9; rw [(tk_all S8.1 S8.2).2.1, (tk_all S8.1 S8.2).2.2] at rd; have H5 := Lib.hid (HC.out.step (s' := ([], S8.2)) rd ad); have O9 := Lib.hid (owns_down o9 (show hi + 1 ≤ _ from by have := blk_lt HC.out.bd; omega)); clear rd ad o9; have x9 := blk_cell H5.out.bd 9 (v := .slice none 0 0) rfl; have z9 := blk_free H5.out.bd 9; obtain ⟨o9, n9, c9, rfl, hn9, -⟩ := slice_of_row O9.out; subst hn9; have H6 := Lib.hid (H5.out.fill 9 (.slice o9 S8.1.length c9) (q' := ⟨(decide (128 ≤ g)), GM, sq, st, sc, L7, FH, P7, X7, S8.1⟩) rfl H5.out.rs H5.out.re O9.out))))
        go_cut [8, 9] from 85 (fun s8 s9 wx => ∃ vp, HdS w wx R hi w.heap.size hi S9 ⟨(decide (128 ≤ g)), GM, sq, st, sc, L7, FH, P7, X7, L9⟩ vs ve vp)
        case first =>
          cases FP with
          | false =>
            go_wp2
            go_meet
            obtain ⟨e1, e2⟩ := H9F.out (by simp)
            rw [e1, e2]
            exact ⟨_, H6.out⟩
          | true =>
            obtain ⟨U, hU⟩ : ∃ U, (unpadH S8.1).2 = U := ⟨_, rfl⟩
            have h9 := H9T.out (by simp)
            rw [hU] at h9
            have HU := Lib.hid hU
            have H9 := Lib.hid h9
            clear h9 hU
            cases U with
            | true =>
              go_wp2_with (go_at_call 65; ((with_reducible refine (UnpadH_any o9 c9 S8.1 (hi + 1) _ H6.out.rp HB8.out hl8).mono ?_); rintro e wf ⟨⟨v10, rfl, o10⟩, rfl⟩; rw [HU.out]; have O10 := Lib.hid o10; clear o10; obtain ⟨o10, n10, c10, rfl, -, -⟩ := slice_of_row O10.out))
              go_meet
              obtain ⟨e1, e2⟩ := H9.out
              rw [e1, e2, if_pos trivial]
              exact ⟨_, H6.out.fill 9 (.slice o10 n10 c10) (q' := ⟨(decide (128 ≤ g)), GM, sq, st, sc, L7, FH, P7, X7, (unpadH S8.1).1⟩) rfl H6.out.rs H6.out.re O10.out⟩
            | false =>
              go_wp2_with (first                 | (go_at_call 65; ((with_reducible refine (UnpadH_any o9 c9 S8.1 (hi + 1) _ H6.out.rp HB8.out hl8).mono ?_); rintro e wf ⟨⟨v10, rfl, o10⟩, rfl⟩; rw [HU.out]; have O10 := Lib.hid o10; clear o10; obtain ⟨o10, n10, c10, rfl, -, -⟩ := slice_of_row O10.out))                 | (go_at_call 62; ((with_reducible refine (RdWrong_any H6.out.rd 2).mono ?_); rintro e wg ⟨rfl, rg, ag⟩; have O11 := Lib.hid (owns_away O10.out ag (fun k hk => by have := H6.out.n1; omega)); have H7 := Lib.hid (H6.out.step (s' := wrS ([], S8.2) 2) rg ag); clear rg ag; have x9' := blk_cell H7.out.bd 9 (v := .slice o9 S8.1.length c9) rfl; have z9' := blk_free H7.out.bd 9)))
              go_meet
              obtain ⟨e1, e2⟩ := H9.out
              rw [e1, e2, if_neg (by simp)]
              exact ⟨_, H7.out.fill 9 (.slice o10 n10 c10) (q' := ⟨(decide (128 ≤ g)), GM, sq, st, sc, L7, FH, P7, X7, (unpadH S8.1).1⟩) rfl H7.out.rs H7.out.re O11.out⟩
        case rest =>
          obtain ⟨vp, hc⟩ := hcut
          have HE := Lib.hid hc
          clear hc H6 H5 HC H9T H9F x9 z9 O9 HB8
          obtain ⟨hp1, hp2, hp3⟩ := HP.out
          have hev : (if ¬ S9.2 = 0 then S9.2 else if 0 < S9.1.length then 4 else 0) = PE := by
            rw [← hp1, hp2]
            by_cases h0 : S9.2 = 0 <;> simp [h0]
          have HEV := Lib.hid hev
          have HP3 := Lib.hid hp3
          clear hev hp1 hp2 hp3 HP
          obtain ⟨os, ns, cs, rfl, -, -⟩ := slice_of_row HE.out.rs
          obtain ⟨oe, ne, ce, rfl, -, -⟩ := slice_of_row HE.out.re
          obtain ⟨op, np, cp, rfl, -, -⟩ := slice_of_row HE.out.rp
          have y0 := blk_cell HE.out.bd 0 (v := .bool (decide (128 ≤ g))) rfl
          have y1 := blk_cell HE.out.bd 1 (v := .int .u8 GM) rfl
          have y2 := blk_cell HE.out.bd 2 (v := .int .u16 sq) rfl
          have y3 := blk_cell HE.out.bd 3 (v := .int .u32 st) rfl
          have y4 := blk_cell HE.out.bd 4 (v := .int .u32 sc) rfl
          have y5 := blk_cell HE.out.bd 5 (v := .slice os ns cs) rfl
          have y6 := blk_cell HE.out.bd 6 (v := .bool FH) rfl
          have y7 := blk_cell HE.out.bd 7 (v := .int .u16 P7) rfl
          have y8 := blk_cell HE.out.bd 8 (v := .slice oe ne ce) rfl
          have y9 := blk_cell HE.out.bd 9 (v := .slice op np cp) rfl
          have g0 := blk_cell HE.out.br 0 (v := .bool false) rfl
          have g1 := blk_cell HE.out.br 1 (v := .int .u8 0) rfl
          have g2 := blk_cell HE.out.br 2 (v := .int .u16 0) rfl
          have g3 := blk_cell HE.out.br 3 (v := .int .u32 0) rfl
          have g4 := blk_cell HE.out.br 4 (v := .int .u32 0) rfl
          have g5 := blk_cell HE.out.br 5 (v := .slice none 0 0) rfl
          have g6 := blk_cell HE.out.br 6 (v := .bool false) rfl
          have g7 := blk_cell HE.out.br 7 (v := .int .u16 0) rfl
          have g8 := blk_cell HE.out.br 8 (v := .slice none 0 0) rfl
          have g9 := blk_cell HE.out.br 9 (v := .slice none 0 0) rfl
          have k0 := blk_free HE.out.br 0
          have k1 := blk_free HE.out.br 1
          have k2 := blk_free HE.out.br 2
          have k3 := blk_free HE.out.br 3
          have k4 := blk_free HE.out.br 4
          have k5 := blk_free HE.out.br 5
          have k6 := blk_free HE.out.br 6
          have k7 := blk_free HE.out.br 7
          have k8 := blk_free HE.out.br 8
          have k9 := blk_free HE.out.br 9
          by_cases h0 : PE = 0
          · have hq := HQ.out
            rw [if_pos h0, ← HP3.out h0] at hq
            have HQ2 := Lib.hid hq
            clear hq HQ HP3
            subst h0
            go_wp2_with (go_at_call 66; ((with_reducible refine (RdEnd_any HE.out.rd).mono ?_); rintro e wh ⟨rfl, rfl⟩; rw [HEV.out]))
            have fin := st10_blk HE.out.br (.bool (decide (128 ≤ g))) (.int .u8 GM) (.int .u16 sq) (.int .u32 st) (.int .u32 sc) (.slice os ns cs) (.bool FH) (.int .u16 P7) (.slice oe ne ce) (.slice op np cp)
            have mf := HE.out.more.st10 w.heap.size (Nat.le_refl _) (.bool (decide (128 ≤ g))) (.int .u8 GM) (.int .u16 sq) (.int .u32 st) (.int .u32 sc) (.slice os ns cs) (.bool FH) (.int .u16 P7) (.slice oe ne ce) (.slice op np cp)
            have aw := away_st10 wh w.heap.size (.bool (decide (128 ≤ g))) (.int .u8 GM) (.int .u16 sq) (.int .u32 st) (.int .u32 sc) (.slice os ns cs) (.bool FH) (.int .u16 P7) (.slice oe ne ce) (.slice op np cp)
            clear g0 g1 g2 g3 g4 g5 g6 g7 g8 g9 k0 k1 k2 k3 k4 k5 k6 k7 k8 k9 y0 y1 y2 y3 y4 y5 y6 y7 y8 y9
            obtain ⟨WF, hWF⟩ : ∃ WF, ((((((((((wh.setCell ⟨w.heap.size, 0, none⟩ (.bool (decide (128 ≤ g)))).setCell ⟨w.heap.size, 1, none⟩ (.int .u8 GM)).setCell ⟨w.heap.size, 2, none⟩ (.int .u16 sq)).setCell ⟨w.heap.size, 3, none⟩ (.int .u32 st)).setCell ⟨w.heap.size, 4, none⟩ (.int .u32 sc)).setCell ⟨w.heap.size, 5, none⟩ (.slice os ns cs)).setCell ⟨w.heap.size, 6, none⟩ (.bool FH)).setCell ⟨w.heap.size, 7, none⟩ (.int .u16 P7)).setCell ⟨w.heap.size, 8, none⟩ (.slice oe ne ce)).setCell ⟨w.heap.size, 9, none⟩ (.slice op np cp)) = WF := ⟨_, rfl⟩
            rw [hWF] at fin mf aw ⊢
            clear hWF
            have r0 := blk_cell fin 0 (v := (.bool (decide (128 ≤ g)))) rfl
            have r1 := blk_cell fin 1 (v := (.int .u8 GM)) rfl
            have r2 := blk_cell fin 2 (v := (.int .u16 sq)) rfl
            have r3 := blk_cell fin 3 (v := (.int .u32 st)) rfl
            have r4 := blk_cell fin 4 (v := (.int .u32 sc)) rfl
            have r5 := blk_cell fin 5 (v := (.slice os ns cs)) rfl
            have r6 := blk_cell fin 6 (v := (.bool FH)) rfl
            have r7 := blk_cell fin 7 (v := (.int .u16 P7)) rfl
            have r8 := blk_cell fin 8 (v := (.slice oe ne ce)) rfl
            have r9 := blk_cell fin 9 (v := (.slice op np cp)) rfl
            (refine bodyPost_ret (v := .tuple #[.agg #[.bool (decide (128 ≤ g)), .int .u8 GM, .int .u16 sq, .int .u32 st, .int .u32 sc, .slice os ns cs, .bool FH, .int .u16 P7, .slice oe ne ce, .slice op np cp], .int .i64 0]) ?rr2 rfl ?_; (case rr2 => (simp [results, Try.results24, go_sem, r0, r1, r2, r3, r4, r5, r6, r7, r8, r9])))
            rw [← HQ2.out]
            refine ⟨.slice os ns cs, .slice oe ne ce, .slice op np cp, rfl, ?_, mf, fun b hb => (by
              have := HE.out.n0
              have := HE.out.n1
              have := HE.out.nR
              have := HE.out.n5
              rcases hb with e | e | e
              · have := owns_ge HE.out.rs e; omega
              · have := owns_ge HE.out.re e; omega
              · have := owns_ge HE.out.rp e; omega)⟩
            have := HE.out.n1
            have := HE.out.nR
            have := HE.out.n5
            exact ⟨SlI.of_owns (owns_away HE.out.rs aw (fun k hk => by omega)) (owns_small HE.out.rs), SlI.of_owns (owns_away HE.out.re aw (fun k hk => by omega)) (owns_small HE.out.re), SlI.of_owns (owns_away HE.out.rp aw (fun k hk => by omega)) (owns_small HE.out.rp)⟩
          · have hq := HQ.out
            rw [if_neg h0] at hq
            have HQ2 := Lib.hid hq
            have h0b : (PE != 0) = true := by simpa using h0
            clear hq HQ HP3
            go_wp2_with (go_at_call 66; ((with_reducible refine (RdEnd_any HE.out.rd).mono ?_); rintro e wh ⟨rfl, rfl⟩; rw [HEV.out]))
            have fin := st10_blk HE.out.br (.bool false) (.int .u8 0) (.int .u16 0) (.int .u32 0) (.int .u32 0) (.slice none 0 0) (.bool false) (.int .u16 0) (.slice none 0 0) (.slice none 0 0)
            have mf := HE.out.more.st10 w.heap.size (Nat.le_refl _) (.bool false) (.int .u8 0) (.int .u16 0) (.int .u32 0) (.int .u32 0) (.slice none 0 0) (.bool false) (.int .u16 0) (.slice none 0 0) (.slice none 0 0)
            have aw := away_st10 wh w.heap.size (.bool false) (.int .u8 0) (.int .u16 0) (.int .u32 0) (.int .u32 0) (.slice none 0 0) (.bool false) (.int .u16 0) (.slice none 0 0) (.slice none 0 0)
            clear g0 g1 g2 g3 g4 g5 g6 g7 g8 g9 k0 k1 k2 k3 k4 k5 k6 k7 k8 k9 y0 y1 y2 y3 y4 y5 y6 y7 y8 y9
            obtain ⟨WF, hWF⟩ : ∃ WF, ((((((((((wh.setCell ⟨w.heap.size, 0, none⟩ (.bool false)).setCell ⟨w.heap.size, 1, none⟩ (.int .u8 0)).setCell ⟨w.heap.size, 2, none⟩ (.int .u16 0)).setCell ⟨w.heap.size, 3, none⟩ (.int .u32 0)).setCell ⟨w.heap.size, 4, none⟩ (.int .u32 0)).setCell ⟨w.heap.size, 5, none⟩ (.slice none 0 0)).setCell ⟨w.heap.size, 6, none⟩ (.bool false)).setCell ⟨w.heap.size, 7, none⟩ (.int .u16 0)).setCell ⟨w.heap.size, 8, none⟩ (.slice none 0 0)).setCell ⟨w.heap.size, 9, none⟩ (.slice none 0 0)) = WF := ⟨_, rfl⟩
            rw [hWF] at fin mf aw ⊢
            clear hWF
            have r0 := blk_cell fin 0 (v := (.bool false)) rfl
            have r1 := blk_cell fin 1 (v := (.int .u8 0)) rfl
            have r2 := blk_cell fin 2 (v := (.int .u16 0)) rfl
            have r3 := blk_cell fin 3 (v := (.int .u32 0)) rfl
            have r4 := blk_cell fin 4 (v := (.int .u32 0)) rfl
            have r5 := blk_cell fin 5 (v := (.slice none 0 0)) rfl
            have r6 := blk_cell fin 6 (v := (.bool false)) rfl
            have r7 := blk_cell fin 7 (v := (.int .u16 0)) rfl
            have r8 := blk_cell fin 8 (v := (.slice none 0 0)) rfl
            have r9 := blk_cell fin 9 (v := (.slice none 0 0)) rfl
            (refine bodyPost_ret (v := .tuple #[.agg #[.bool false, .int .u8 0, .int .u16 0, .int .u32 0, .int .u32 0, .slice none 0 0, .bool false, .int .u16 0, .slice none 0 0, .slice none 0 0], .int .i64 PE]) ?rr3 rfl ?_; (case rr3 => (simp [results, Try.results24, go_sem, r0, r1, r2, r3, r4, r5, r6, r7, r8, r9])))
            rw [← HQ2.out]
            exact ⟨.slice none 0 0, .slice none 0 0, .slice none 0 0, rfl, ⟨SlI.nil _ _, SlI.nil _ _, SlI.nil _ _⟩, mf, none_new⟩
theorem ReadH_long (v : Value) (b : List Int) (w : World) (sl : SlI .u8 w v b) (hl : (200 : Int) < b.length) : Calls Try.prog 24 #[v] w (ReadPost (readH b) w) := (ReadH_longN v b w sl hl).mono fun _ _ h => h.post
theorem ReadH_short (v : Value) (b : List Int) (w : World) (sl : SlI .u8 w v b) (hb : Byt b) (hl : ¬ (200 : Int) < b.length) : Calls Try.prog 24 #[v] w (ReadPost (readH b) w) := (ReadH_shortN v b w sl hb hl).mono fun _ _ h => h.post
end Go.Proofs.Ytdgmmffedhikcaa
