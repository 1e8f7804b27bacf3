/- Descriptions: the plain law. -/
import Derived.Test.YtlnikmcimmnbmaaRdP
namespace Go.Proofs.Ytlnikmcimmnbmaa
set_option linter.unusedSimpArgs false
set_option linter.unusedVariables false
open Go.RowKit
set_option maxRecDepth 100000

/-- A description. -/
structure Ds where
  lo : Bool
  st : Bool
  pt : Int
  pic : Int
  wd : Bool
  bs : Int
  tr : Int
  sy : Bool
  ky : Int
def ds0 : Ds := ⟨false, false, 0, 0, false, 0, 0, false, 0⟩
def rightD (d : Ds) : Bool :=
  decide (d.pt ≤ 7) && (decide (-1 ≤ d.pic) && decide (d.pic ≤ if d.wd then 32767 else 127)) && (decide (-1 ≤ d.bs) && decide (d.bs ≤ 255)) && (decide (-1 ≤ d.tr) && decide (d.tr ≤ 3)) && (decide (-1 ≤ d.ky) && decide (d.ky ≤ 31)) && !(d.wd && decide (d.pic = -1)) && !(d.sy && decide (d.tr = -1))
theorem rightD_iff (d : Ds) : rightD d = true ↔ d.pt ≤ 7 ∧ (-1 ≤ d.pic ∧ d.pic ≤ if d.wd then 32767 else 127) ∧ (-1 ≤ d.bs ∧ d.bs ≤ 255) ∧ (-1 ≤ d.tr ∧ d.tr ≤ 3) ∧ (-1 ≤ d.ky ∧ d.ky ≤ 31) ∧ (d.wd = true → d.pic ≠ -1) ∧ (d.sy = true → d.tr ≠ -1) := by
  unfold rightD
  cases d.wd <;> cases d.sy <;> simp [and_assoc]
def b1 (b : Bool) (n : Int) : Int := if b then n else 0
/-- Which numbers are told. -/
def toldD (d : Ds) : Int := b1 (decide (d.pic ≠ -1)) 128 + b1 (decide (d.bs ≠ -1)) 64 + b1 (decide (d.tr ≠ -1)) 32 + b1 (decide (d.ky ≠ -1)) 16
def oneD (d : Ds) : Int := d.pt + b1 (decide (toldD d ≠ 0)) 128 + b1 d.lo 32 + b1 d.st 16
def lastD (d : Ds) : Int := 64 * max 0 d.tr + max 0 d.ky + b1 d.sy 32
def dsB (d : Ds) : List Int :=
  bysA (oneD d) 1 ++ (if toldD d ≠ 0 then bysA (toldD d) 1 else []) ++ (if d.wd then bysA (32768 + d.pic) 2 else if d.pic ≠ -1 then bysA d.pic 1 else []) ++ (if d.bs ≠ -1 then bysA d.bs 1 else []) ++ (if d.tr ≠ -1 ∨ d.ky ≠ -1 then bysA (lastD d) 1 else [])
def writeD (d : Ds) : List Int × Int := if rightD d then (dsB d, 0) else ([], 1)

def nB (s : RdS) : Int := num (tkB s.1 1)
def bit (n k : Int) : Bool := decide (n / k % 2 = 1)
/-- Which numbers are told; behind the first two bytes. -/
def headD (s : RdS) : Int × Int × RdS := if bit (nB s) 128 then (nB s, nB (tkS s 1), tkS (tkS s 1) 1) else (nB s, 0, tkS s 1)
def picD (t : Int) (s : RdS) : (Int × Bool) × RdS := if bit t 128 then (if nB s < 128 then ((nB s, false), tkS s 1) else (((nB s - 128) * 256 + nB (tkS s 1), true), tkS (tkS s 1) 1)) else ((-1, false), s)
def basD (t : Int) (s : RdS) : Int × RdS := if bit t 64 then (nB s, tkS s 1) else (-1, s)
def bothD (t : Int) (s : RdS) : Int × RdS := if bit t 32 || bit t 16 then (nB s, tkS s 1) else (0, s)
def mkD (f t : Int) (p : Int × Bool) (b q : Int) : Ds := ⟨bit f 32, bit f 16, f % 8, p.1, p.2, b, if bit t 32 then q / 64 else -1, bit t 32 && bit q 32, if bit t 16 then q % 32 else -1⟩
def restD (f t : Int) (s : RdS) : Ds × RdS :=
  (mkD f t (picD t s).1 (basD t (picD t s).2).1 (bothD t (basD t (picD t s).2).2).1, (bothD t (basD t (picD t s).2).2).2)
def endD (n : Int) (x : Ds × RdS) : Ds × Int × Int := if x.2.2 = 3 then (ds0, 0, 3) else (x.1, n - x.2.1.length, 0)
def readD (b : List Int) : Ds × Int × Int := endD b.length (restD (headD (b, 0)).1 (headD (b, 0)).2.1 (headD (b, 0)).2.2)
/-- Does a payload begin a keyframe? -/
def beginsD (b : List Int) : Bool :=
  decide ((readD b).2.2 = 0) && (readD b).1.st && decide ((readD b).1.pt = 0) && decide ((readD b).2.1 < b.length) && decide (b.getD (readD b).2.1.toNat 0 % 2 = 0)
end Go.Proofs.Ytlnikmcimmnbmaa
