/- Merged from my texts RdP, HeadP. -/
import Derived.Test.YtdgmmffedhikcaaMg4
/- Readers: the state, plain; bytes of numbers. -/
namespace Go.Proofs.Ytdgmmffedhikcaa
set_option linter.unusedSimpArgs false
set_option linter.unusedVariables false
open Go.RowKit
set_option maxRecDepth 100000

theorem bysA_len2 (n s : Int) (hs : 0 ≤ s ∧ s ≤ 8) : (bysA n s).length = s.toNat := by
  rw [bysA_pos n s hs, bys_length]
theorem num_bysA (x : Int) (k : Nat) (hx : 0 ≤ x) (h8 : k ≤ 8) (h : x < 2 ^ (8 * k)) : num (bysA x k) = x := by
  have e1 : bysA x k = bys x k := by rw [bysA_pos _ _ (by omega)]; simp
  rw [e1, num_eq_numE _ (Byt_bys _ _) (by rw [bys_length]; exact h8), numE_bys]
  exact Int.emod_eq_of_lt hx h
theorem tk_join {l : List Int} {n : Int} (h0 : 0 ≤ n) (h : n ≤ l.length) : l = tkB l n ++ tkL l n ∧ ((tkB l n).length : Int) = n := by
  unfold tkB tkL
  rw [if_pos h]
  refine ⟨(List.take_append_drop _ _).symm, ?_⟩
  rw [List.length_take]; omega
theorem bysA_num {l : List Int} (h : Byt l) (k : Nat) (hl : (l.length : Int) = k) (h8 : k ≤ 8) : bysA (num l) k = l := by
  have hl2 : l.length = k := by omega
  rw [bysA_pos _ _ (by omega)]
  simp only [Int.toNat_natCast]
  rw [← hl2]
  exact bys_num l h (by omega)
/-- A reader's state: what is left, what went wrong. -/
abbrev RdS := List Int × Int
def wrS (s : RdS) (x : Int) : RdS := if x = 0 ∨ ¬ s.2 = 0 then s else ([], x)
def tkS (s : RdS) (n : Int) : RdS := (tkL s.1 n, tkE s.1 n s.2)
theorem RdWrong_any {w : World} {R : Nat} {s : RdS} {C : Nat → Prop} (h : ReaderAt w R s.1 s.2 C) (x : Int) :
    Calls Try.prog 62 #[.pointer (some ⟨R, 0, none⟩), .int .i64 x] w fun e' w' => e' = .returned (.tuple #[]) ∧ ReaderAt w' R (wrS s x).1 (wrS s x).2 C ∧ Away (fun b => b = R) w w' := by
  obtain ⟨l, e⟩ := s
  simp only at h
  by_cases hx : x = 0
  · refine (RdWrong_no h x (Or.inl hx)).mono ?_
    rintro e' w' ⟨rfl, rfl⟩
    have : wrS (l, e) x = (l, e) := by unfold wrS; rw [if_pos (Or.inl hx)]
    rw [this]; exact ⟨rfl, h, Away.refl _ _⟩
  · by_cases he : e = 0
    · subst he
      refine (RdWrong_yes h x hx).mono ?_
      rintro e' w' ⟨rfl, h2, a2⟩
      have : wrS (l, 0) x = ([], x) := by unfold wrS; rw [if_neg (by simp [hx])]
      rw [this]; exact ⟨rfl, h2, a2⟩
    · refine (RdWrong_no h x (Or.inr ⟨hx, he⟩)).mono ?_
      rintro e' w' ⟨rfl, rfl⟩
      have : wrS (l, e) x = (l, e) := by unfold wrS; rw [if_pos (Or.inr he)]
      rw [this]; exact ⟨rfl, h, Away.refl _ _⟩
abbrev U32 (n : Int) : Prop := 0 ≤ n ∧ n ≤ 4294967295
/-- So many bytes on. -/
def adv (s : RdS) (n : Nat) : RdS := if s.2 = 0 then (if n ≤ s.1.length then (s.1.drop n, 0) else ([], 3)) else ([], s.2)
def Shut (s : RdS) : Prop := ¬ s.2 = 0 → s.1 = []
theorem tkS_adv {s : RdS} (n : Nat) (h : Shut s) : tkS s n = adv s n := by
  obtain ⟨l, e⟩ := s
  unfold tkS adv tkL tkE
  simp only [Int.toNat_natCast]
  by_cases he : e = 0
  · subst he
    rw [if_pos rfl]
    by_cases hn : n ≤ l.length
    · rw [if_pos hn, if_neg (by omega)]
    · rw [if_neg hn, if_pos (by omega), List.drop_eq_nil_of_le (by omega)]
  · have h0 : l = [] := h he
    subst h0
    rw [if_neg he, if_neg (fun x => he x.2)]
    simp
theorem adv_shut (s : RdS) (n : Nat) : Shut (adv s n) := by
  unfold Shut adv
  split
  · split
    · intro h; exact absurd rfl h
    · intro _; rfl
  · intro _; rfl
theorem adv_adv (s : RdS) (a b : Nat) : adv (adv s a) b = adv s (a + b) := by
  obtain ⟨l, e⟩ := s
  unfold adv
  simp only
  by_cases he : e = 0
  · subst he
    simp only [if_true]
    by_cases ha : a ≤ l.length
    · rw [if_pos ha]
      simp only [if_true, List.length_drop, List.drop_drop]
      by_cases hb : a + b ≤ l.length
      · rw [if_pos (by omega), if_pos hb]
      · rw [if_neg (by omega), if_neg hb]
    · rw [if_neg ha]
      simp
      omega
  · rw [if_neg he, if_neg he]
    simp [he]
theorem tkS_adv2 {s : RdS} (a b : Nat) : tkS (adv s a) b = adv s (a + b) := by rw [tkS_adv b (adv_shut s a), adv_adv]
theorem adv_zero {s : RdS} (h : Shut s) : adv s 0 = s := by
  obtain ⟨l, e⟩ := s
  unfold adv
  by_cases he : e = 0
  · subst he; simp
  · have h0 : l = [] := h he
    subst h0; simp [he]
theorem bysA_mod3 (x : Int) : bysA (x % 16777216) 3 = bysA x 3 := by
  have h : ∀ j, j < 3 → by8 (x % 16777216) j = by8 x j := by
    intro j hj
    unfold by8
    match j, hj with
    | 0, _ => simp
    | 1, _ => simp; omega
    | 2, _ => simp; omega
  show [by8 (x % 16777216) 2, by8 (x % 16777216) 1, by8 (x % 16777216) 0] = [by8 x 2, by8 x 1, by8 x 0]
  rw [h 0 (by decide), h 1 (by decide), h 2 (by decide)]
theorem tkS_bysA (x : Int) (k : Nat) (h8 : k ≤ 8) (r : List Int) : tkS (bysA x k ++ r, 0) k = (r, 0) ∧ tkB (bysA x k ++ r) k = bysA x k := by
  have hl : ((bysA x k).length : Int) = k := by rw [bysA_len2 _ _ (by omega)]; simp
  have a := tkB_app (bysA x k) r
  have b := tkL_app (bysA x k) r
  have c := tkE_app (bysA x k) r 0
  rw [hl] at a b c
  unfold tkS
  simp only [a, b, c, and_self]
theorem num_exists (k : Nat) (h8 : k ≤ 8) {L : List Int} (hb : Byt L) (h : k ≤ L.length) : ∃ x r, L = bysA x k ++ r ∧ 0 ≤ x ∧ x < 2 ^ (8 * k) ∧ Byt r := by
  obtain ⟨j, q⟩ := tk_join (l := L) (n := (k : Int)) (by omega) (by omega)
  have hn := num_lt (tkB L k) k (tkB_byt hb k) (by omega) h8
  refine ⟨num (tkB L k), tkL L k, ?_, hn.1, hn.2, hb.drop _⟩
  rw [bysA_num (tkB_byt hb k) k q h8]
  exact j
theorem u32_exists {L : List Int} (hb : Byt L) (h : 4 ≤ L.length) : ∃ x r, L = bysA x 4 ++ r ∧ U32 x ∧ Byt r := by
  obtain ⟨x, r, h1, h2, h3, h4⟩ := num_exists 4 (by decide) hb h
  have h3 : x < 4294967296 := h3
  exact ⟨x, r, h1, ⟨h2, by omega⟩, h4⟩
end Go.Proofs.Ytdgmmffedhikcaa
/- Packets: the plain law. -/
namespace Go.Proofs.Ytdgmmffedhikcaa
set_option linter.unusedSimpArgs false
set_option linter.unusedVariables false
open Go.RowKit
set_option maxRecDepth 100000

/-- A packet. -/
structure Pk where
  mr : Bool
  ty : Int
  sq : Int
  st : Int
  sc : Int
  ss : List Int
  has : Bool
  pr : Int
  ex : List Int
  pl : List Int
theorem Pk.ext' {p q : Pk} (h : p.mr = q.mr ∧ p.ty = q.ty ∧ p.sq = q.sq ∧ p.st = q.st ∧ p.sc = q.sc ∧ p.ss = q.ss ∧ p.has = q.has ∧ p.pr = q.pr ∧ p.ex = q.ex ∧ p.pl = q.pl) : p = q := by
  obtain ⟨⟩ := p
  obtain ⟨⟩ := q
  simp only at h
  simp [h]
def pk0 : Pk := ⟨false, 0, 0, 0, 0, [], false, 0, [], []⟩
abbrev U16 (n : Int) : Prop := 0 ≤ n ∧ n ≤ 65535
structure PkOK (p : Pk) : Prop where
  ty : 0 ≤ p.ty ∧ p.ty ≤ 255
  sq : U16 p.sq
  st : U32 p.st
  sc : U32 p.sc
  ss : ∀ i, U32 (p.ss.getD i 0)
  pr : U16 p.pr
  ex : Byt p.ex
  pl : Byt p.pl
def sizeH (p : Pk) : Int := 12 + 4 * (p.ss.length : Int) + (p.pl.length : Int) + if p.has then 4 + (p.ex.length : Int) else 0
def rightH (p : Pk) : Bool := decide (p.ty ≤ 127) && decide ((p.ss.length : Int) ≤ 15) && (p.has || (decide (p.pr = 0) && decide (p.ex = []))) && decide ((p.ex.length : Int) % 4 = 0) && decide (sizeH p ≤ 200)
theorem rightH_iff (p : Pk) : rightH p = true ↔ p.ty ≤ 127 ∧ (p.ss.length : Int) ≤ 15 ∧ (p.has = false → p.pr = 0 ∧ p.ex = []) ∧ (p.ex.length : Int) % 4 = 0 ∧ sizeH p ≤ 200 := by
  unfold rightH
  cases h : p.has <;> simp [and_assoc]
def oneH (p : Pk) : Int := 128 + (p.ss.length : Int) + if p.has then 16 else 0
def twoH (p : Pk) : Int := p.ty + if p.mr then 128 else 0
def ssB (l : List Int) : List Int := l.flatMap fun x => bysA x 4
theorem ssB_snoc (l : List Int) (x : Int) : ssB (l ++ [x]) = ssB l ++ bysA x 4 := by simp [ssB]
theorem ssB_len (l : List Int) : (ssB l).length = 4 * l.length := by
  induction l with
  | nil => rfl
  | cons x l ih =>
    show (bysA x 4 ++ ssB l).length = _
    rw [List.length_append, ih, bysA_len2 _ _ (by decide), List.length_cons]
    show 4 + 4 * l.length = _
    omega
/-- The first twelve bytes. -/
def fixB (p : Pk) : List Int := bysA (oneH p) 1 ++ bysA (twoH p) 1 ++ bysA p.sq 2 ++ bysA p.st 4 ++ bysA p.sc 4
def extB (p : Pk) : List Int := bysA p.pr 2 ++ bysA ((p.ex.length : Int) / 4) 2 ++ p.ex
/-- All but the payload. -/
def preB (p : Pk) : List Int := fixB p ++ ssB p.ss ++ if p.has then extB p else []
def pkB (p : Pk) : List Int := preB p ++ p.pl
/-- The bytes of a packet, or none. -/
def writeH (p : Pk) : List Int × Int := if rightH p then (pkB p, 0) else ([], 1)

/-- Numbers are read, one behind the other. -/
def rdSs : Nat → RdS → List Int × RdS
  | 0, s => ([], s)
  | n + 1, s => ((rdSs n s).1 ++ [num (tkB (rdSs n s).2.1 4)], tkS (rdSs n s).2 4)
/-- The payload, of which the last byte may tell how many bytes are none of it. -/
def unpadH (b : List Int) : List Int × Bool :=
  if b = [] then ([], false) else if b.getD (b.length - 1) 0 = 0 ∨ (b.length : Int) < b.getD (b.length - 1) 0 then ([], false) else (b.take (b.length - (b.getD (b.length - 1) 0).toNat), true)
def padH (f : Int) (s : RdS) : List Int × Int :=
  if ¬ s.2 = 0 then ([], s.2) else if f / 32 % 2 = 1 then (if (unpadH s.1).2 then ((unpadH s.1).1, 0) else ([], 2)) else (s.1, 0)
/-- Profile and Extra. -/
def extS (s : RdS) : (Int × List Int) × RdS := ((num (tkB s.1 2), tkB (tkS (tkS s 2) 2).1 (4 * num (tkB (tkS s 2).1 2))), tkS (tkS (tkS s 2) 2) (4 * num (tkB (tkS s 2).1 2)))
/-- What stands behind the first twelve bytes. -/
def restH (f : Int) (s : RdS) : (List Int × Int × List Int) × RdS :=
  if f / 16 % 2 = 1 then (((rdSs (f % 16).toNat s).1, (extS (rdSs (f % 16).toNat s).2).1.1, (extS (rdSs (f % 16).toNat s).2).1.2), (extS (rdSs (f % 16).toNat s).2).2)
  else (((rdSs (f % 16).toNat s).1, 0, []), (rdSs (f % 16).toNat s).2)
def s1H (b : List Int) : RdS := tkS (b, 0) 1
def s2H (b : List Int) : RdS := tkS (s1H b) 1
def s3H (b : List Int) : RdS := tkS (s2H b) 2
def s4H (b : List Int) : RdS := tkS (s3H b) 4
def s5H (b : List Int) : RdS := tkS (s4H b) 4
def formH (f : Int) (s : RdS) : RdS := if f < 128 ∨ 191 < f then wrS s 2 else s
def fH (b : List Int) : Int := num (tkB b 1)
def gH (b : List Int) : Int := num (tkB (s1H b).1 1)
def mkH (b : List Int) (x : List Int × Int × List Int) (l : List Int) : Pk :=
  ⟨decide (128 ≤ gH b), gH b % 128, num (tkB (s2H b).1 2), num (tkB (s3H b).1 4), num (tkB (s4H b).1 4), x.1, decide (fH b / 16 % 2 = 1), x.2.1, x.2.2, l⟩
def endH (b : List Int) (x : (List Int × Int × List Int) × RdS) : Pk × Int :=
  if (padH (fH b) x.2).2 = 0 then (mkH b x.1 (padH (fH b) x.2).1, 0) else (pk0, (padH (fH b) x.2).2)
/-- A packet is read. -/
def readH (b : List Int) : Pk × Int :=
  if (200 : Int) < b.length then (pk0, 4) else endH b (restH (fH b) (formH (fH b) (s5H b)))
theorem s5H_adv (b : List Int) : s5H b = adv (b, 0) 12 := by
  have h : Shut (b, 0) := fun h => absurd rfl h
  show tkS (tkS (tkS (tkS (tkS (b, 0) (1 : Nat)) (1 : Nat)) (2 : Nat)) (4 : Nat)) (4 : Nat) = _
  rw [tkS_adv 1 h, tkS_adv2, tkS_adv2, tkS_adv2, tkS_adv2]
theorem rdSs_adv : ∀ (n : Nat) {s : RdS}, Shut s → (rdSs n s).2 = adv s (4 * n)
  | 0, s, h => by rw [Nat.mul_zero, adv_zero h]; rfl
  | n + 1, s, h => by
    show tkS (rdSs n s).2 (4 : Nat) = _
    rw [rdSs_adv n h, tkS_adv2]
    congr 1
theorem rdSs_len : ∀ (n : Nat) (s : RdS), (rdSs n s).1.length = n
  | 0, _ => rfl
  | n + 1, s => by
    show ((rdSs n s).1 ++ [_]).length = _
    rw [List.length_append, rdSs_len n]
    rfl
theorem shut0 (b : List Int) : Shut (b, 0) := fun h => absurd rfl h
/-- What went wrong stays. -/
theorem tkS_bad (e n : Int) (h : ¬ e = 0) : tkS ([], e) n = ([], e) := by
  unfold tkS
  rw [tkL_nil', tkE_bad h]
where
  tkL_nil' : tkL ([] : List Int) n = [] := by unfold tkL; simp
  tkE_bad (he : ¬ e = 0) : tkE [] n e = e := by unfold tkE; rw [if_neg (fun x => he x.2)]
theorem rdSs_bad (e : Int) (h : ¬ e = 0) : ∀ n, (rdSs n ([], e)).2 = ([], e)
  | 0 => rfl
  | n + 1 => by
    show tkS (rdSs n ([], e)).2 4 = _
    rw [rdSs_bad e h n, tkS_bad e 4 h]
theorem restH_bad (f e : Int) (h : ¬ e = 0) : (restH f ([], e)).2 = ([], e) := by
  unfold restH extS
  split
  · simp only [rdSs_bad e h, tkS_bad e _ h]
  · simp only [rdSs_bad e h]
theorem endH_bad (b : List Int) (f e : Int) (h : ¬ e = 0) : endH b (restH f ([], e)) = (pk0, e) := by
  have hp : padH (fH b) (restH f ([], e)).2 = ([], e) := by
    rw [restH_bad f e h]
    unfold padH
    rw [if_pos h]
  unfold endH
  rw [hp]
  simp only
  rw [if_neg h]
/-- The document's way: it is short, or of no form, ahead of all else. -/
def readHD (b : List Int) : Pk × Int :=
  if (200 : Int) < b.length then (pk0, 4) else if (b.length : Int) < 12 then (pk0, 3) else if fH b < 128 ∨ 191 < fH b then (pk0, 2) else endH b (restH (fH b) (b.drop 12, 0))
theorem readHD_eq (b : List Int) : readHD b = readH b := by
  unfold readHD readH
  by_cases h1 : (200 : Int) < b.length
  · rw [if_pos h1, if_pos h1]
  rw [if_neg h1, if_neg h1]
  have h5 : s5H b = if 12 ≤ b.length then (b.drop 12, 0) else ([], 3) := by
    rw [s5H_adv]
    unfold adv
    simp
  by_cases h2 : (b.length : Int) < 12
  · rw [if_pos h2]
    rw [if_neg (by omega)] at h5
    have : formH (fH b) ([], 3) = ([], 3) := by unfold formH wrS; simp
    rw [h5, this, endH_bad b _ 3 (by decide)]
  rw [if_neg h2]
  rw [if_pos (by omega)] at h5
  rw [h5]
  by_cases h3 : fH b < 128 ∨ 191 < fH b
  · rw [if_pos h3]
    have : formH (fH b) (b.drop 12, 0) = ([], 2) := by unfold formH wrS; rw [if_pos h3]; simp
    rw [this, endH_bad b _ 2 (by decide)]
  · rw [if_neg h3]
    have : formH (fH b) (b.drop 12, 0) = (b.drop 12, 0) := by unfold formH; rw [if_neg h3]
    rw [this]
/-- Numbers' bytes are read. -/
theorem rdSs_ssB : ∀ (l r : List Int), (∀ i, U32 (l.getD i 0)) → rdSs l.length (ssB l ++ r, 0) = (l, (r, 0)) := by
  intro l
  induction l using snoc_ind with
  | h0 => intro r _; rfl
  | h1 l x ih =>
    intro r h
    have hx : U32 x := by
      have := h l.length
      simpa using this
    have hl : ∀ i, U32 (l.getD i 0) := fun i => by
      by_cases e : i < l.length
      · have := h i
        rw [List.getD_eq_getElem?_getD, List.getElem?_append_left e] at this
        rw [List.getD_eq_getElem?_getD]; exact this
      · rw [List.getD_eq_getElem?_getD, List.getElem?_eq_none (by omega)]; exact ⟨by decide, by decide⟩
    have e1 : (l ++ [x]).length = l.length + 1 := by simp
    rw [e1, ssB_snoc, List.append_assoc]
    unfold rdSs
    rw [ih (bysA x 4 ++ r) hl]
    obtain ⟨h1, h2⟩ := tkS_bysA x 4 (by decide) r
    have h1 : tkS (bysA x 4 ++ r, 0) 4 = (r, 0) := h1
    have h2 : tkB (bysA x 4 ++ r) 4 = bysA x 4 := h2
    simp only [h1, h2]
    rw [show num (bysA x 4) = x from num_bysA x 4 hx.1 (by decide) (by have := hx.2; show x < 4294967296; omega)]
theorem fixB_len (p : Pk) : (fixB p).length = 12 := by
  unfold fixB
  simp only [List.length_append, bysA_len2 _ 1 (by decide), bysA_len2 _ 2 (by decide), bysA_len2 _ 4 (by decide)]
  decide
theorem preB_len (p : Pk) : ((preB p).length : Int) = 12 + 4 * (p.ss.length : Int) + if p.has then 4 + (p.ex.length : Int) else 0 := by
  unfold preB
  rw [List.length_append, List.length_append, fixB_len, ssB_len]
  cases p.has
  · simp
  · simp only [if_true, extB, List.length_append, bysA_len2 _ 2 (by decide)]
    show ((12 + 4 * p.ss.length + (2 + 2 + p.ex.length) : Nat) : Int) = _
    omega
theorem pkB_len (p : Pk) : ((pkB p).length : Int) = sizeH p := by
  unfold pkB sizeH
  rw [List.length_append]
  have := preB_len p
  omega
/-- The first twelve bytes are read. -/
theorem fix_read {p : Pk} (hr : rightH p = true) (hk : PkOK p) (r : List Int) :
    fH (fixB p ++ r) = oneH p ∧ gH (fixB p ++ r) = twoH p ∧ num (tkB (s2H (fixB p ++ r)).1 2) = p.sq ∧ num (tkB (s3H (fixB p ++ r)).1 4) = p.st ∧ num (tkB (s4H (fixB p ++ r)).1 4) = p.sc ∧ s5H (fixB p ++ r) = (r, 0) := by
  obtain ⟨h1, h2, h3, h4, h5⟩ := (rightH_iff p).1 hr
  have e : fixB p ++ r = bysA (oneH p) 1 ++ (bysA (twoH p) 1 ++ (bysA p.sq 2 ++ (bysA p.st 4 ++ (bysA p.sc 4 ++ r)))) := by unfold fixB; simp only [List.append_assoc]
  obtain ⟨a1, b1⟩ := tkS_bysA (oneH p) 1 (by decide) (bysA (twoH p) 1 ++ (bysA p.sq 2 ++ (bysA p.st 4 ++ (bysA p.sc 4 ++ r))))
  obtain ⟨a2, b2⟩ := tkS_bysA (twoH p) 1 (by decide) (bysA p.sq 2 ++ (bysA p.st 4 ++ (bysA p.sc 4 ++ r)))
  obtain ⟨a3, b3⟩ := tkS_bysA p.sq 2 (by decide) (bysA p.st 4 ++ (bysA p.sc 4 ++ r))
  obtain ⟨a4, b4⟩ := tkS_bysA p.st 4 (by decide) (bysA p.sc 4 ++ r)
  obtain ⟨a5, b5⟩ := tkS_bysA p.sc 4 (by decide) r
  have t1 : s1H (fixB p ++ r) = (bysA (twoH p) 1 ++ (bysA p.sq 2 ++ (bysA p.st 4 ++ (bysA p.sc 4 ++ r))), 0) := by unfold s1H; rw [e]; exact a1
  have t2 : s2H (fixB p ++ r) = (bysA p.sq 2 ++ (bysA p.st 4 ++ (bysA p.sc 4 ++ r)), 0) := by unfold s2H; rw [t1]; exact a2
  have t3 : s3H (fixB p ++ r) = (bysA p.st 4 ++ (bysA p.sc 4 ++ r), 0) := by unfold s3H; rw [t2]; exact a3
  have t4 : s4H (fixB p ++ r) = (bysA p.sc 4 ++ r, 0) := by unfold s4H; rw [t3]; exact a4
  have t5 : s5H (fixB p ++ r) = (r, 0) := by unfold s5H; rw [t4]; exact a5
  have o0 : 0 ≤ oneH p ∧ oneH p < 256 := by unfold oneH; split <;> omega
  have w0 : 0 ≤ twoH p ∧ twoH p < 256 := by have := hk.ty; unfold twoH; split <;> omega
  refine ⟨?_, ?_, ?_, ?_, ?_, t5⟩
  · unfold fH
    rw [e]
    exact (congrArg num b1).trans (num_bysA _ 1 o0.1 (by decide) o0.2)
  · unfold gH
    rw [t1]
    exact (congrArg num b2).trans (num_bysA _ 1 w0.1 (by decide) w0.2)
  · rw [t2]
    exact (congrArg num b3).trans (num_bysA _ 2 hk.sq.1 (by decide) (by have := hk.sq.2; show _ < 65536; omega))
  · rw [t3]
    exact (congrArg num b4).trans (num_bysA _ 4 hk.st.1 (by decide) (by have := hk.st.2; show _ < 4294967296; omega))
  · rw [t4]
    exact (congrArg num b5).trans (num_bysA _ 4 hk.sc.1 (by decide) (by have := hk.sc.2; show _ < 4294967296; omega))
theorem oneH_bits {p : Pk} (hr : rightH p = true) : ¬ (oneH p < 128 ∨ 191 < oneH p) ∧ (oneH p % 16).toNat = p.ss.length ∧ (oneH p / 16 % 2 = 1 ↔ p.has = true) ∧ ¬ oneH p / 32 % 2 = 1 := by
  obtain ⟨h1, h2, h3, h4, h5⟩ := (rightH_iff p).1 hr
  unfold oneH
  cases p.has <;> simp <;> omega
theorem ext_read {p : Pk} (hr : rightH p = true) (hk : PkOK p) (r : List Int) : extS (extB p ++ r, 0) = ((p.pr, p.ex), (r, 0)) := by
  obtain ⟨h1, h2, h3, h4, h5⟩ := (rightH_iff p).1 hr
  have e : extB p ++ r = bysA p.pr 2 ++ (bysA ((p.ex.length : Int) / 4) 2 ++ (p.ex ++ r)) := by unfold extB; simp only [List.append_assoc]
  obtain ⟨a1, b1⟩ := tkS_bysA p.pr 2 (by decide) (bysA ((p.ex.length : Int) / 4) 2 ++ (p.ex ++ r))
  obtain ⟨a2, b2⟩ := tkS_bysA ((p.ex.length : Int) / 4) 2 (by decide) (p.ex ++ r)
  have a1 : tkS (bysA p.pr 2 ++ (bysA ((p.ex.length : Int) / 4) 2 ++ (p.ex ++ r)), 0) 2 = (bysA ((p.ex.length : Int) / 4) 2 ++ (p.ex ++ r), 0) := a1
  have b1 : tkB (bysA p.pr 2 ++ (bysA ((p.ex.length : Int) / 4) 2 ++ (p.ex ++ r))) 2 = bysA p.pr 2 := b1
  have a2 : tkS (bysA ((p.ex.length : Int) / 4) 2 ++ (p.ex ++ r), 0) 2 = (p.ex ++ r, 0) := a2
  have b2 : tkB (bysA ((p.ex.length : Int) / 4) 2 ++ (p.ex ++ r)) 2 = bysA ((p.ex.length : Int) / 4) 2 := b2
  have hel : (p.ex.length : Int) ≤ 200 := by
    unfold sizeH at h5
    cases hh : p.has with
    | false => have := (h3 hh).2; rw [this]; simp
    | true => rw [hh] at h5; simp at h5; omega
  have n2 : num (bysA ((p.ex.length : Int) / 4) 2) = (p.ex.length : Int) / 4 := num_bysA _ 2 (by omega) (by decide) (by show _ < 65536; omega)
  have n1 : num (bysA p.pr 2) = p.pr := num_bysA _ 2 hk.pr.1 (by decide) (by have := hk.pr.2; show _ < 65536; omega)
  have e4 : 4 * ((p.ex.length : Int) / 4) = (p.ex.length : Int) := by omega
  have a3 := tkB_app p.ex r
  have b3 := tkL_app p.ex r
  have c3 := tkE_app p.ex r 0
  unfold extS
  rw [e]
  simp only [a1, b1, a2, b2, n1, n2, e4]
  unfold tkS
  simp only [a3, b3, c3]
/-- A packet is read from its bytes, whatever its payload. -/
theorem read_pre {p : Pk} (hr : rightH p = true) (hk : PkOK p) (l : List Int) (hl : ((preB p).length + l.length : Int) ≤ 200) : readH (preB p ++ l) = ({ p with pl := l }, 0) := by
  obtain ⟨h1, h2, h3, h4, h5⟩ := (rightH_iff p).1 hr
  obtain ⟨o1, o2, o3, o4⟩ := oneH_bits hr
  have e : preB p ++ l = fixB p ++ (ssB p.ss ++ ((if p.has then extB p else []) ++ l)) := by unfold preB; simp only [List.append_assoc]
  obtain ⟨f1, f2, f3, f4, f5, f6⟩ := fix_read hr hk (ssB p.ss ++ ((if p.has then extB p else []) ++ l))
  rw [← e] at f1 f2 f3 f4 f5 f6
  unfold readH
  rw [if_neg (by rw [List.length_append]; omega), f6, f1]
  have hf : formH (oneH p) (ssB p.ss ++ ((if p.has then extB p else []) ++ l), 0) = (ssB p.ss ++ ((if p.has then extB p else []) ++ l), 0) := by unfold formH; rw [if_neg o1]
  rw [hf]
  have hs := rdSs_ssB p.ss ((if p.has then extB p else []) ++ l) hk.ss
  have hty : decide (128 ≤ twoH p) = p.mr ∧ twoH p % 128 = p.ty := by
    have := hk.ty
    unfold twoH
    cases p.mr <;> simp <;> omega
  cases hh : p.has with
  | true =>
    rw [hh] at hs
    have hx : restH (oneH p) (ssB p.ss ++ ((if true = true then extB p else []) ++ l), 0) = ((p.ss, p.pr, p.ex), (l, 0)) := by
      unfold restH
      rw [if_pos (o3.2 hh), o2, hs]
      simp only [if_true, ext_read hr hk l]
    rw [hx]
    have hp : padH (fH (preB p ++ l)) (l, 0) = (l, 0) := by
      unfold padH
      rw [f1, if_neg (by simp), if_neg o4]
    unfold endH
    simp only [hp, if_true]
    unfold mkH
    rw [f1, f2, f3, f4, f5, hty.1, hty.2, decide_eq_true (o3.2 hh), ← hh]
  | false =>
    rw [hh] at hs
    have hx : restH (oneH p) (ssB p.ss ++ ((if false = true then extB p else []) ++ l), 0) = ((p.ss, p.pr, p.ex), (l, 0)) := by
      unfold restH
      rw [if_neg (fun g => by have := o3.1 g; rw [hh] at this; cases this), o2, hs, (h3 hh).1, (h3 hh).2]
      rfl
    rw [hx]
    have hp : padH (fH (preB p ++ l)) (l, 0) = (l, 0) := by
      unfold padH
      rw [f1, if_neg (by simp), if_neg o4]
    unfold endH
    simp only [hp, if_true]
    unfold mkH
    rw [f1, f2, f3, f4, f5, hty.1, hty.2, decide_eq_false (fun g => by have := o3.1 g; rw [hh] at this; cases this), ← hh]
theorem adv_short (s : List Int) (n : Nat) (h : s.length < n) : adv (s, 0) n = ([], 3) := by
  unfold adv
  rw [if_pos rfl, if_neg (by simp only; omega)]
theorem adv_long (s : List Int) (n : Nat) (h : n ≤ s.length) : adv (s, 0) n = (s.drop n, 0) := by
  unfold adv
  rw [if_pos rfl, if_pos h]
/-- Cut off within its head, sources or extension it is short. -/
theorem read_cut {p : Pk} (hr : rightH p = true) (hk : PkOK p) (c : Nat) (hc : c < (preB p).length) (hp : ((preB p).length : Int) ≤ 200) : readH ((preB p).take c) = (pk0, 3) := by
  obtain ⟨h1, h2, h3, h4, h5⟩ := (rightH_iff p).1 hr
  obtain ⟨o1, o2, o3, o4⟩ := oneH_bits hr
  have hlen : ((preB p).take c).length = c := by rw [List.length_take]; omega
  rw [← readHD_eq]
  unfold readHD
  rw [hlen, if_neg (by omega)]
  by_cases c12 : (c : Int) < 12
  · rw [if_pos c12]
  rw [if_neg c12]
  have e0 : preB p = fixB p ++ (ssB p.ss ++ (if p.has then extB p else [])) := by unfold preB; simp only [List.append_assoc]
  have e : (preB p).take c = fixB p ++ (ssB p.ss ++ (if p.has then extB p else [])).take (c - 12) := by
    rw [e0, List.take_append, fixB_len, List.take_of_length_le (by rw [fixB_len]; omega)]
  obtain ⟨f1, f2, f3, f4, f5, f6⟩ := fix_read hr hk ((ssB p.ss ++ (if p.has then extB p else [])).take (c - 12))
  rw [← e] at f1
  rw [f1, if_neg o1]
  have ed : ((preB p).take c).drop 12 = (ssB p.ss ++ (if p.has then extB p else [])).take (c - 12) := by
    rw [e, List.drop_append_of_le_length (by rw [fixB_len]; exact Nat.le_refl _), List.drop_of_length_le (by rw [fixB_len]; exact Nat.le_refl _), List.nil_append]
  rw [ed]
  have hpl := preB_len p
  have hbad : (restH (oneH p) ((ssB p.ss ++ (if p.has then extB p else [])).take (c - 12), 0)).2 = ([], 3) := by
    by_cases q1 : c - 12 < 4 * p.ss.length
    · have hl2 : ((ssB p.ss ++ (if p.has then extB p else [])).take (c - 12)).length < 4 * p.ss.length := by rw [List.length_take]; omega
      have hs : (rdSs p.ss.length ((ssB p.ss ++ (if p.has then extB p else [])).take (c - 12), 0)).2 = ([], 3) := by
        rw [rdSs_adv _ (shut0 _), adv_short _ _ hl2]
      unfold restH extS
      rw [o2]
      split
      · simp only [hs, tkS_bad 3 _ (by decide)]
      · simp only [hs]
    · have hh : p.has = true := by
        cases q : p.has with
        | true => rfl
        | false =>
          rw [q] at hpl
          simp at hpl
          omega
      rw [hh] at hpl ⊢
      simp only [if_true] at hpl ⊢
      have es : (ssB p.ss ++ extB p).take (c - 12) = ssB p.ss ++ (extB p).take (c - 12 - 4 * p.ss.length) := by
        rw [List.take_append, ssB_len, List.take_of_length_le (by rw [ssB_len]; omega)]
      rw [es]
      have hs := rdSs_ssB p.ss ((extB p).take (c - 12 - 4 * p.ss.length)) hk.ss
      have hel : (extB p).length = 4 + p.ex.length := by
        simp only [extB, List.length_append, bysA_len2 _ 2 (by decide)]
        show 2 + 2 + _ = _
        omega
      generalize hd : c - 12 - 4 * p.ss.length = d at *
      have hdl : ((extB p).take d).length = d := by rw [List.length_take]; omega
      unfold restH
      rw [if_pos (o3.2 hh), o2, hs]
      simp only
      unfold extS
      simp only
      have t1 : tkS ((extB p).take d, 0) 2 = adv ((extB p).take d, 0) 2 := tkS_adv 2 (shut0 _)
      have t2 : tkS (tkS ((extB p).take d, 0) 2) 2 = adv ((extB p).take d, 0) 4 := by rw [t1]; exact tkS_adv2 2 2
      by_cases q2 : d < 4
      · rw [t2, adv_short _ _ (by rw [hdl]; exact q2)]
        exact tkS_bad 3 _ (by decide)
      · have et : (extB p).take d = bysA p.pr 2 ++ (bysA ((p.ex.length : Int) / 4) 2 ++ p.ex.take (d - 4)) := by
          have e1 : extB p = (bysA p.pr 2 ++ bysA ((p.ex.length : Int) / 4) 2) ++ p.ex := rfl
          have e2 : (bysA p.pr 2 ++ bysA ((p.ex.length : Int) / 4) 2).length = 4 := by
            simp only [List.length_append, bysA_len2 _ 2 (by decide)]
            rfl
          rw [e1, List.take_append, e2, List.take_of_length_le (by rw [e2]; omega), List.append_assoc]
        obtain ⟨a1, b1⟩ := tkS_bysA p.pr 2 (by decide) (bysA ((p.ex.length : Int) / 4) 2 ++ p.ex.take (d - 4))
        obtain ⟨a2, b2⟩ := tkS_bysA ((p.ex.length : Int) / 4) 2 (by decide) (p.ex.take (d - 4))
        have a1 : tkS (bysA p.pr 2 ++ (bysA ((p.ex.length : Int) / 4) 2 ++ p.ex.take (d - 4)), 0) 2 = (bysA ((p.ex.length : Int) / 4) 2 ++ p.ex.take (d - 4), 0) := a1
        have a2 : tkS (bysA ((p.ex.length : Int) / 4) 2 ++ p.ex.take (d - 4), 0) 2 = (p.ex.take (d - 4), 0) := a2
        have b2 : tkB (bysA ((p.ex.length : Int) / 4) 2 ++ p.ex.take (d - 4)) 2 = bysA ((p.ex.length : Int) / 4) 2 := b2
        have n2 : num (bysA ((p.ex.length : Int) / 4) 2) = (p.ex.length : Int) / 4 := num_bysA _ 2 (by omega) (by decide) (by show _ < 65536; omega)
        have e4 : 4 * ((p.ex.length : Int) / 4) = (p.ex.length : Int) := by omega
        rw [et, a1]
        simp only [a2, b2, n2, e4]
        rw [tkS_adv p.ex.length (shut0 _), adv_short _ _ (by rw [List.length_take]; omega)]
  unfold endH
  have : padH (fH ((preB p).take c)) (restH (oneH p) ((ssB p.ss ++ (if p.has then extB p else [])).take (c - 12), 0)).2 = ([], 3) := by
    rw [hbad]
    unfold padH
    rw [if_pos (by decide)]
  rw [this]
  rfl
end Go.Proofs.Ytdgmmffedhikcaa
