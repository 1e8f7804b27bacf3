/- x -/
import Derived.Test.YtlmllmonabafjaaGreatDoorMi0
import Derived.Handy
import Derived.Test.YtlmllmonabafjaaGreatDoorRows
import Derived.Maps.AppendAt
import Derived.Lib.LazyBuf
import Derived.ProofKit
import Derived.OpenShut
import Derived.Lib.SmallJoins
import Derived.Deep.Slices
import Derived.Deep.Fields
import Derived.IntWalk
import Derived.Deep.Cut
import Derived.Deep.CutRange
import Derived.Deep.CutBlock
import Derived.Laws.CopyRow
import Derived.Laws.Rows
import Derived.Laws.Tables
import Derived.Laws.MakeOwn
import Derived.Deep.MidRow
namespace Go.Proofs.YtlmllmonabafjaaGreatDoor
open Go.Value renaming bool->μ,slice->δ,pointer->π,agg->θ
open Go.IntKind renaming i64->ι,u8->υ,u16->φ,u32->ω,i32->χ,u64->ψ
set_option linter.all false
open Go.RowKit
set_option maxRecDepth 100000
open Option renaming some->ϊ,none->ϋ
open Bool renaming true->ό,false->ύ
open _root_.Go.Proofs.Tryz
set_option maxHeartbeats 8000000
variable {w w':World} {l L:List Int} {C D S:Nat->Prop} {v:Value} {Q:Exit->Act->World->Prop} {P:Prop} {α:Type} {R n W base b g cap B:Nat} {e:Int} {a:Act} {xs c z cs:List Value} {ops:Array Oper} {K:Act->World->Prop} {k:IntKind} {rest:List Oper} {T css:List (List Value)} {G d:Option Addr} {I:Func}
def τ (h:P:=by omega):P:=h
def ξ (h:P:=by kernel_rfl):P:=h
def ζ (h:P:=by decide):P:=h
def η (h:P:=by simp):P:=h
def κ {p:Prop} (h:p):RowKit.Hid p:=h
def ν {α : Sort _} (a : α) : ∃ x, a = x := ⟨_, rfl⟩
def ρ (h : ql w w' := by repeat (first | exact ql.refl _ | assumption | refine ql.dr ?_ _ | refine ql.al ?_ _ | refine ql.st ?_ (by simp) _)) : ql w w' := h
def σ {S : Nat → Prop} (h : jt S w w' := by repeat (first | exact jt.refl _ _ | assumption | refine jt.drewN ?_ _ | refine jt.set ?_ (by first | rfl | exact Or.inl rfl | exact Or.inr rfl) _)) : jt S w w' := h
def _root_.Go.RowKit.Hid.o {p : Prop} (h : RowKit.Hid p) : p := h
section
variable {w:World} {b t:Nat} {c:List Value} {A B C D E F G H I J K L M N O P Q R S U V:Value}
def β0 (h:w.heap[b]?=some (.cells (A::c).toArray t (0,0))):w.cell? ⟨b,0,none⟩=some A:=qm h 0 η
def β1 (h:w.heap[b]?=some (.cells (A::B::c).toArray t (0,0))):w.cell? ⟨b,1,none⟩=some B:=qm h 1 η
def β2 (h:w.heap[b]?=some (.cells (A::B::C::c).toArray t (0,0))):w.cell? ⟨b,2,none⟩=some C:=qm h 2 η
def β3 (h:w.heap[b]?=some (.cells (A::B::C::D::c).toArray t (0,0))):w.cell? ⟨b,3,none⟩=some D:=qm h 3 η
def β4 (h:w.heap[b]?=some (.cells (A::B::C::D::E::c).toArray t (0,0))):w.cell? ⟨b,4,none⟩=some E:=qm h 4 η
def β5 (h:w.heap[b]?=some (.cells (A::B::C::D::E::F::c).toArray t (0,0))):w.cell? ⟨b,5,none⟩=some F:=qm h 5 η
def β6 (h:w.heap[b]?=some (.cells (A::B::C::D::E::F::G::c).toArray t (0,0))):w.cell? ⟨b,6,none⟩=some G:=qm h 6 η
def β7 (h:w.heap[b]?=some (.cells (A::B::C::D::E::F::G::H::c).toArray t (0,0))):w.cell? ⟨b,7,none⟩=some H:=qm h 7 η
def β8 (h:w.heap[b]?=some (.cells (A::B::C::D::E::F::G::H::I::c).toArray t (0,0))):w.cell? ⟨b,8,none⟩=some I:=qm h 8 η
def β9 (h:w.heap[b]?=some (.cells (A::B::C::D::E::F::G::H::I::J::c).toArray t (0,0))):w.cell? ⟨b,9,none⟩=some J:=qm h 9 η
def β10 (h:w.heap[b]?=some (.cells (A::B::C::D::E::F::G::H::I::J::K::c).toArray t (0,0))):w.cell? ⟨b,10,none⟩=some K:=qm h 10 η
def β11 (h:w.heap[b]?=some (.cells (A::B::C::D::E::F::G::H::I::J::K::L::c).toArray t (0,0))):w.cell? ⟨b,11,none⟩=some L:=qm h 11 η
def β12 (h:w.heap[b]?=some (.cells (A::B::C::D::E::F::G::H::I::J::K::L::M::c).toArray t (0,0))):w.cell? ⟨b,12,none⟩=some M:=qm h 12 η
def β13 (h:w.heap[b]?=some (.cells (A::B::C::D::E::F::G::H::I::J::K::L::M::N::c).toArray t (0,0))):w.cell? ⟨b,13,none⟩=some N:=qm h 13 η
def β14 (h:w.heap[b]?=some (.cells (A::B::C::D::E::F::G::H::I::J::K::L::M::N::O::c).toArray t (0,0))):w.cell? ⟨b,14,none⟩=some O:=qm h 14 η
def β15 (h:w.heap[b]?=some (.cells (A::B::C::D::E::F::G::H::I::J::K::L::M::N::O::P::c).toArray t (0,0))):w.cell? ⟨b,15,none⟩=some P:=qm h 15 η
def β16 (h:w.heap[b]?=some (.cells (A::B::C::D::E::F::G::H::I::J::K::L::M::N::O::P::Q::c).toArray t (0,0))):w.cell? ⟨b,16,none⟩=some Q:=qm h 16 η
def β17 (h:w.heap[b]?=some (.cells (A::B::C::D::E::F::G::H::I::J::K::L::M::N::O::P::Q::R::c).toArray t (0,0))):w.cell? ⟨b,17,none⟩=some R:=qm h 17 η
def β18 (h:w.heap[b]?=some (.cells (A::B::C::D::E::F::G::H::I::J::K::L::M::N::O::P::Q::R::S::c).toArray t (0,0))):w.cell? ⟨b,18,none⟩=some S:=qm h 18 η
def β19 (h:w.heap[b]?=some (.cells (A::B::C::D::E::F::G::H::I::J::K::L::M::N::O::P::Q::R::S::U::c).toArray t (0,0))):w.cell? ⟨b,19,none⟩=some U:=qm h 19 η
def β20 (h:w.heap[b]?=some (.cells (A::B::C::D::E::F::G::H::I::J::K::L::M::N::O::P::Q::R::S::U::V::c).toArray t (0,0))):w.cell? ⟨b,20,none⟩=some V:=qm h 20 η
end
instance:CoeFun IntKind (λ_=>Int->Value):=⟨.int⟩
instance:Coe Bool Value:=⟨.bool⟩
instance:Coe Unit Value:=⟨λ_=>.slice none 0 0⟩
inductive Mm | o
def γ (b:Nat):Mm:=.o
instance (b:Nat):CoeDep Mm (γ b) Value:=⟨.pointer (some ⟨b,0,none⟩)⟩
def Γa:Mm:=.o
instance:CoeDep Mm Γa (List Value):=⟨[ι 0,ι 0,μ false,μ false,υ 0,φ 0,ω 0,ω 0,δ none 0 0,μ false,φ 0,δ none 0 0,δ none 0 0]⟩
instance:CoeDep Mm Γa (Array Value):=⟨(Γa:List Value).toArray⟩
instance:CoeDep Mm Γa Value:=⟨θ Γa⟩
def Γs:Mm:=.o
instance:CoeDep Mm Γs (List Value):=⟨[ι 0,δ none 0 0]⟩
instance:CoeDep Mm Γs (Array Value):=⟨(Γs:List Value).toArray⟩
instance:CoeDep Mm Γs Value:=⟨θ Γs⟩
def Γb:Mm:=.o
instance:CoeDep Mm Γb (List Value):=⟨[ι 0,ι 0,μ false,μ false,υ 0,φ 0,ω 0,ω 0,δ none 0 0,μ false,φ 0,δ none 0 0,δ none 0 0,μ false]⟩
instance:CoeDep Mm Γb (Array Value):=⟨(Γb:List Value).toArray⟩
instance:CoeDep Mm Γb Value:=⟨θ Γb⟩
def Γc:Mm:=.o
instance:CoeDep Mm Γc (List Value):=⟨[μ false,υ 0,φ 0,ω 0,ω 0,δ none 0 0,μ false,φ 0,δ none 0 0,δ none 0 0]⟩
instance:CoeDep Mm Γc (Array Value):=⟨(Γc:List Value).toArray⟩
instance:CoeDep Mm Γc Value:=⟨θ Γc⟩
def Γd:Mm:=.o
instance:CoeDep Mm Γd (List Value):=⟨[μ false,ω 0,ω 0,ω 0,ω 0,ω 0,ω 0,δ none 0 0]⟩
instance:CoeDep Mm Γd (Array Value):=⟨(Γd:List Value).toArray⟩
instance:CoeDep Mm Γd Value:=⟨θ Γd⟩
def Γe:Mm:=.o
instance:CoeDep Mm Γe (List Value):=⟨[ω 0,υ 0,χ 0,ω 0,ω 0,ω 0,ω 0]⟩
instance:CoeDep Mm Γe (Array Value):=⟨(Γe:List Value).toArray⟩
instance:CoeDep Mm Γe Value:=⟨θ Γe⟩
def Γf:Mm:=.o
instance:CoeDep Mm Γf (List Value):=⟨[ι 0,μ false,ω 0,ω 0,ω 0,ω 0,ω 0,ω 0,δ none 0 0,ι 0,ω 0,ω 0,δ none 0 0,δ none 0 0,υ 0,υ 0,δ none 0 0]⟩
instance:CoeDep Mm Γf (Array Value):=⟨(Γf:List Value).toArray⟩
instance:CoeDep Mm Γf Value:=⟨θ Γf⟩
def Γg:Mm:=.o
instance:CoeDep Mm Γg (List Value):=⟨[ι 0,ω 0,ω 0,δ none 0 0,δ none 0 0]⟩
instance:CoeDep Mm Γg (Array Value):=⟨(Γg:List Value).toArray⟩
instance:CoeDep Mm Γg Value:=⟨θ Γg⟩
def Qo:Nat->Nat->List Nat->List (Nat×Bool)
 | _,0,_=>[]
 | i,k+1,L=>(i,L.elem i)::Qo (i+1) k L
def Qn {P:Program} {id:Nat} {l:List Oper} (w0:World) (T k:Nat) (L:List Nat) {n:List (Nat×Bool)} (h:zU P l T (λw'=> ∃x:qt w0,w'=x.w') (Q .normal) n a (w.drewN 1)) (e:Qo 0 k L=n:=by simp[Qo];exact rfl) (hm:P.follows .mixedOrders=true:=by kernel_rfl) (hB:(Region.noSelect l.toArray&&JG .any l.toArray T n (Array.replicate l.length false)&&decide (n.length=l.length)&&n.all λx=>decide (x.1<l.length))=true:=by kernel_rfl):(Code.region id l.toArray true).wp P Q a w:=zC w0 T n hm hB h
def QN {P:Program} {id:Nat} {l:List Oper} (S:Nat->Prop) (w0:World) (T k:Nat) (L:List Nat) {n:List (Nat×Bool)} (h:zU P l T (λw'=> ∃x:qz S w0,w'=x.w') (Q .normal) n a (w.drewN 1)) (e:Qo 0 k L=n:=by simp[Qo];exact rfl) (hm:P.follows .mixedOrders=true:=by kernel_rfl) (hB:(Region.noSelect l.toArray&&JG .any l.toArray T n (Array.replicate l.length false)&&decide (n.length=l.length)&&n.all λx=>decide (x.1<l.length))=true:=by kernel_rfl):(Code.region id l.toArray true).wp P Q a w:=zp S w0 T n hm hB h
def Ql {Q:Prop} (k:Q) (h:(Unit->Q)->P:=by intro k;refine jR rfl rfl ?_;intro K hK;unfold jn;go_simp;revert K hK;exact k ()):P:=h (λ_=>k)
def Qe {Q:Prop} (k:Q) (h:(Unit->Q)->P:=by intro k;refine zY rfl rfl (by decide) ?_;intro K hK;unfold jn;go_simp;revert K hK;exact k ()):P:=h (λ_=>k)
def Qq1 {Q:Prop} (k:Q) (h:(Unit->Q)->P:=by intro k;(refine qE rfl rfl (qk ρ) ?_;intro K hK;go_big_quiet_op;go_big_quiet_on);exact k ()):P:=h (λ_=>k)
def Qq2 {Q:Prop} (k:Q) (h:(Unit->Q)->P:=by intro k;(iterate 2 (refine qE rfl rfl (qk ρ) ?_;intro K hK;go_big_quiet_op;go_big_quiet_on));exact k ()):P:=h (λ_=>k)
def Qq3 {Q:Prop} (k:Q) (h:(Unit->Q)->P:=by intro k;(iterate 3 (refine qE rfl rfl (qk ρ) ?_;intro K hK;go_big_quiet_op;go_big_quiet_on));exact k ()):P:=h (λ_=>k)
def Qq5 {Q:Prop} (k:Q) (h:(Unit->Q)->P:=by intro k;(iterate 5 (refine qE rfl rfl (qk ρ) ?_;intro K hK;go_big_quiet_op;go_big_quiet_on));exact k ()):P:=h (λ_=>k)
def Qq6 {Q:Prop} (k:Q) (h:(Unit->Q)->P:=by intro k;(iterate 6 (refine qE rfl rfl (qk ρ) ?_;intro K hK;go_big_quiet_op;go_big_quiet_on));exact k ()):P:=h (λ_=>k)
def Qq7 {Q:Prop} (k:Q) (h:(Unit->Q)->P:=by intro k;(iterate 7 (refine qE rfl rfl (qk ρ) ?_;intro K hK;go_big_quiet_op;go_big_quiet_on));exact k ()):P:=h (λ_=>k)
def Qq8 {Q:Prop} (k:Q) (h:(Unit->Q)->P:=by intro k;(iterate 8 (refine qE rfl rfl (qk ρ) ?_;intro K hK;go_big_quiet_op;go_big_quiet_on));exact k ()):P:=h (λ_=>k)
def Qq9 {Q:Prop} (k:Q) (h:(Unit->Q)->P:=by intro k;(iterate 9 (refine qE rfl rfl (qk ρ) ?_;intro K hK;go_big_quiet_op;go_big_quiet_on));exact k ()):P:=h (λ_=>k)
def NC {Q:Prop} (k:Q) (h:(Unit->Q)->P:=by intro k;(iterate 10 (refine qE rfl rfl (qk ρ) ?_;intro K hK;go_big_quiet_op;go_big_quiet_on));exact k ()):P:=h (λ_=>k)
def qaE {Q:Prop} (k:Q) (h:(Unit->Q)->P:=by intro k;(iterate 11 (refine qE rfl rfl (qk ρ) ?_;intro K hK;go_big_quiet_op;go_big_quiet_on));exact k ()):P:=h (λ_=>k)
def Qs {Q:Prop} (k:Q) (h:(Unit->Q)->P:=by intro k;(iterate 12 (refine qE rfl rfl (qk ρ) ?_;intro K hK;go_big_quiet_op;go_big_quiet_on));exact k ()):P:=h (λ_=>k)
def qaD {Q:Prop} (k:Q) (h:(Unit->Q)->P:=by intro k;(iterate 13 (refine qE rfl rfl (qk ρ) ?_;intro K hK;go_big_quiet_op;go_big_quiet_on));exact k ()):P:=h (λ_=>k)
def Ny {Q:Prop} (k:Q) (h:(Unit->Q)->P:=by intro k;(iterate 19 (refine qE rfl rfl (qk ρ) ?_;intro K hK;go_big_quiet_op;go_big_quiet_on));exact k ()):P:=h (λ_=>k)
def qaC {Q:Prop} (k:Q) (h:(Unit->Q)->P:=by intro k;(iterate 20 (refine qE rfl rfl (qk ρ) ?_;intro K hK;go_big_quiet_op;go_big_quiet_on));exact k ()):P:=h (λ_=>k)
def NA {Q:Prop} (k:Q) (h:(Unit->Q)->P:=by intro k;(iterate 21 (refine qE rfl rfl (qk ρ) ?_;intro K hK;go_big_quiet_op;go_big_quiet_on));exact k ()):P:=h (λ_=>k)
def Qs1 {Q:Prop} (k:Q) (h:(Unit->Q)->P:=by intro k;(refine qE rfl rfl (qi σ) ?_;intro K hK;go_big_quiet_op;go_big_quiet_on);exact k ()):P:=h (λ_=>k)
def Qs2 {Q:Prop} (k:Q) (h:(Unit->Q)->P:=by intro k;(iterate 2 (refine qE rfl rfl (qi σ) ?_;intro K hK;go_big_quiet_op;go_big_quiet_on));exact k ()):P:=h (λ_=>k)
def Qs3 {Q:Prop} (k:Q) (h:(Unit->Q)->P:=by intro k;(iterate 3 (refine qE rfl rfl (qi σ) ?_;intro K hK;go_big_quiet_op;go_big_quiet_on));exact k ()):P:=h (λ_=>k)
def Qs4 {Q:Prop} (k:Q) (h:(Unit->Q)->P:=by intro k;(iterate 4 (refine qE rfl rfl (qi σ) ?_;intro K hK;go_big_quiet_op;go_big_quiet_on));exact k ()):P:=h (λ_=>k)
def Qs5 {Q:Prop} (k:Q) (h:(Unit->Q)->P:=by intro k;(iterate 5 (refine qE rfl rfl (qi σ) ?_;intro K hK;go_big_quiet_op;go_big_quiet_on));exact k ()):P:=h (λ_=>k)
def Qs6 {Q:Prop} (k:Q) (h:(Unit->Q)->P:=by intro k;(iterate 6 (refine qE rfl rfl (qi σ) ?_;intro K hK;go_big_quiet_op;go_big_quiet_on));exact k ()):P:=h (λ_=>k)
def Qs7 {Q:Prop} (k:Q) (h:(Unit->Q)->P:=by intro k;(iterate 7 (refine qE rfl rfl (qi σ) ?_;intro K hK;go_big_quiet_op;go_big_quiet_on));exact k ()):P:=h (λ_=>k)
def Qs8 {Q:Prop} (k:Q) (h:(Unit->Q)->P:=by intro k;(iterate 8 (refine qE rfl rfl (qi σ) ?_;intro K hK;go_big_quiet_op;go_big_quiet_on));exact k ()):P:=h (λ_=>k)
def Qs9 {Q:Prop} (k:Q) (h:(Unit->Q)->P:=by intro k;(iterate 9 (refine qE rfl rfl (qi σ) ?_;intro K hK;go_big_quiet_op;go_big_quiet_on));exact k ()):P:=h (λ_=>k)
def Nx {Q:Prop} (k:Q) (h:(Unit->Q)->P:=by intro k;(iterate 10 (refine qE rfl rfl (qi σ) ?_;intro K hK;go_big_quiet_op;go_big_quiet_on));exact k ()):P:=h (λ_=>k)
def Nz {Q:Prop} (k:Q) (h:(Unit->Q)->P:=by intro k;(iterate 12 (refine qE rfl rfl (qi σ) ?_;intro K hK;go_big_quiet_op;go_big_quiet_on));exact k ()):P:=h (λ_=>k)
def NE {Q:Prop} (k:Q) (h:(Unit->Q)->P:=by intro k;(iterate 13 (refine qE rfl rfl (qi σ) ?_;intro K hK;go_big_quiet_op;go_big_quiet_on));exact k ()):P:=h (λ_=>k)
def Qq {Q:Prop} (k:Q) (h:(Unit->Q)->P:=by intro k;(iterate 14 (refine qE rfl rfl (qi σ) ?_;intro K hK;go_big_quiet_op;go_big_quiet_on));exact k ()):P:=h (λ_=>k)
def qaB {Q:Prop} (k:Q) (h:(Unit->Q)->P:=by intro k;(iterate 15 (refine qE rfl rfl (qi σ) ?_;intro K hK;go_big_quiet_op;go_big_quiet_on));exact k ()):P:=h (λ_=>k)
def qaA {Q:Prop} (k:Q) (h:(Unit->Q)->P:=by intro k;(iterate 16 (refine qE rfl rfl (qi σ) ?_;intro K hK;go_big_quiet_op;go_big_quiet_on));exact k ()):P:=h (λ_=>k)
def qaz {Q:Prop} (k:Q) (h:(Unit->Q)->P:=by intro k;(iterate 17 (refine qE rfl rfl (qi σ) ?_;intro K hK;go_big_quiet_op;go_big_quiet_on));exact k ()):P:=h (λ_=>k)
def ND {Q:Prop} (k:Q) (h:(Unit->Q)->P:=by intro k;(iterate 19 (refine qE rfl rfl (qi σ) ?_;intro K hK;go_big_quiet_op;go_big_quiet_on));exact k ()):P:=h (λ_=>k)
def Ν2:Mm:=.o
instance:CoeDep Mm Ν2 Nat:=⟨2⟩
def Ν13:Mm:=.o
instance:CoeDep Mm Ν13 Nat:=⟨13⟩
def Ν14:Mm:=.o
instance:CoeDep Mm Ν14 Nat:=⟨14⟩
def Ν53:Mm:=.o
instance:CoeDep Mm Ν53 Nat:=⟨53⟩
def Ν56:Mm:=.o
instance:CoeDep Mm Ν56 Nat:=⟨56⟩
def Ν253:Mm:=.o
instance:CoeDep Mm Ν253 Nat:=⟨253⟩
def Ν255:Mm:=.o
instance:CoeDep Mm Ν255 Nat:=⟨255⟩
def Ν325:Mm:=.o
instance:CoeDep Mm Ν325 Nat:=⟨325⟩
def Ν327:Mm:=.o
instance:CoeDep Mm Ν327 Nat:=⟨327⟩
def Ν328:Mm:=.o
instance:CoeDep Mm Ν328 Nat:=⟨328⟩
def Ν330:Mm:=.o
instance:CoeDep Mm Ν330 Nat:=⟨330⟩
def Ν332:Mm:=.o
instance:CoeDep Mm Ν332 Nat:=⟨332⟩
def ώ:=@if_neg
def Ϗ:=@List.length_append
def ϐ:=@if_pos
def ϑ:=@List.getD_eq_getElem?_getD
def ϒ:=@Or.inl
def ϓ:=@List.mem_append_right
def ϔ:=@Or.inr
def ϕ:=@Nat.le_refl
def ϖ:=@List.getElem?_eq_getElem
def ϗ:=@Nat.lt_of_lt_of_le
def Ϙ:=@Nat.le_trans
def ϙ:=@List.length_cons
def Ϛ:=@List.getElem?_eq_some_iff
def ϛ:=@List.getElem_mem
def Ϟ:=@List.mem_cons_self
def ϟ:=@of_decide_eq_true
def Ϡ:=@List.length_take
def ϡ:=@List.mem_append
def Ϣ:=@List.Sublist.refl
def ϣ:=@List.length_drop
def Ϥ:=@Option.isSome_iff_exists
def ϥ:=@Option.getD_some
def Ϧ:=@List.eq_nil_of_length_eq_zero
def ϧ:=@List.append_assoc
def Ϩ:=@List.mem_cons_of_mem
def ϩ:=@absurd
def Ϫ:=@List.length_nil
def ϫ:=@decide_eq_false
def Ϭ:=@List.map_cons
def ϭ:=@decide_eq_true
def Ϯ:=@Bool.false_eq_true
def ϯ:=@congrArg
def ϰ:=@List.mem_cons
def ϱ:=@List.take_length
def ϵ:=@List.take_succ_eq_append_getElem
def Ϻ:=@List.getElem?_append_right
def ϻ:=@List.getElem?_append_left
def Γ:=@Int.eq_ofNat_of_zero_le
def Δ:=@List.mem_singleton
def Θ:=@List.mem_append_left
def Ξ:=@List.map_append
def Φ:=@List.foldl_append
def Ψ:=@Nat.zero_le
def Ω:=@List.append_nil
def ε:=@List.foldl_cons
def ο:=@Int.toNat_natCast
def A0:=@if_true
def A4:=@List.mem_iff_getElem
def A5:=@List.getElem?_toArray
def A6:=@List.length_map
def A7:=@Nat.mul_le_mul_right
def A8:=@List.take_add_one
def A9:=@List.take_append_drop
def B3:=@List.getElem?_take
def B4:=@List.length_pos_iff
def B6:=@List.mem_map
def B9:=@Bool.and_eq_true
def C0:=@Ne.symm
def C1:=@of_decide_eq_false
def C2:=@if_false
def C3:=@Prod.mk.injEq
def C4:=@decide_eq_true_eq
def C6:=@Option.map_some
def C7:=@List.perm_iff_count
def C8:=@List.length_filter_le
def C9:=@List.flatten_cons
def D0:=@Array.getElem?_setIfInBounds_ne
def D1:=@List.getElem?_drop
def D2:=@Nat.pow_le_pow_right
def D3:=@Int.tmod_eq_emod_of_nonneg
def D4:=@List.nodup_cons
def D5:=@List.map_nil
def D6:=@List.count_append
def D8:=@Nat.zero_add
def E0:=@Bool.eq_iff_iff
def E8:=@Nat.le_add_right
def E9:=@List.take_of_length_le
def F1:=@Int.emod_eq_of_lt
def F2:=@List.drop_eq_getElem_cons
def F3:=@List.getElem?_eq_none
def F4:=@Array.getElem?_modify
def F5:=@Nat.lt_succ_self
def F8:=@List.eq_of_mem_replicate
def G0:=@Nat.add_mul
def G1:=@List.drop_append_of_le_length
def G2:=@List.take_append_of_le_length
def G3:=@List.nodup_append
def G4:=@List.getElem?_map
def G5:=@List.size_toArray
def G6:=@List.mem_filter
def G7:=@Nat.add_zero
def G8:=@List.drop_eq_nil_of_le
def G9:=@List.all_eq_true
def I0:=@Int.natCast_emod
def I1:=@List.pairwise_cons
def I2:=@List.filter_append
def I3:=@List.nil_append
def I4:=@List.count_cons
def I5:=@List.getElem?_set_ne
def I6:=@Nat.mod_lt
def I7:=@List.length_filterMap_le
def I8:=@Bool.true_and
def I9:=@List.getElem?_take_of_lt
def J0:=@Nat.le_mul_of_pos_right
def J1:=@List.getElem_map
def J2:=@List.length_eq_zero_iff
def J3:=@List.map_toArray
def J4:=@List.count_nil
def J5:=@Nat.le_succ
def J6:=@Int.lt_of_lt_of_le
def J7:=@List.filterMap_append
def K0:=@List.ext_getElem?
def K2:=@List.any_eq_false
def K3:=@Bool.false_and
def K4:=@List.filter_cons
def K5:=@List.getElem?_eq_none_iff
def K6:=@List.flatten_append
def K7:=@List.mem_map_of_mem
def K8:=@Array.length_toList
def K9:=@List.map_congr_left
def M0:=@Nat.add_assoc
def M2:=@List.getElem_append_left
def M3:=@Option.some.inj
def M4:=@Option.map_eq_some_iff
def M5:=@Option.some.injEq
def M6:=@Nat.zero_mul
def M7:=@List.mem_range
def M8:=@List.length_eq_one_iff
def M9:=@List.length_singleton
def N0:=@Nat.one_mul
def N1:=@List.mem_of_mem_tail
def N2:=@List.cons.injEq
def N3:=@Option.map_none
def N4:=@Array.getElem?_setIfInBounds
def N5:=@Array.toList_modify
def N6:=@List.flatMap_append
def O0:=@List.mergeSort_perm
def O1:=@And.intro
def O2:=@Int.tdiv_eq_ediv_of_nonneg
def O3:=@List.mem_filterMap
def O4:=@List.nodup_nil
def O5:=@Int.emod_lt_of_pos
def O6:=@Bool.and_false
def P0:=@Classical.byContradiction
def P1:=@List.pairwise_iff_getElem
def P2:=@Array.getElem?_eq_getElem
def P4:=@Int.le_refl
def P5:=@List.length_erase_of_mem
def P6:=@List.sublist_append_left
def P8:=@List.any_eq_true
def P9:=@Nat.add_sub_cancel_left
def Q1:=@Nat.mod_eq_of_lt
def Q2:=@List.pairwise_mergeSort
def Q3:=@List.not_mem_nil
def Q4:=@List.getElem?_set_self
def Q5:=@Nat.testBit_lt_two_pow
def Q6:=@Nat.le_of_lt
def Q7:=@List.map_map
def Q8:=@List.range_succ
def R0:=@Int.emod_nonneg
def R4:=@List.find?_some
def R5:=@Bool.or_eq_true
def R8:=@Nat.div_lt_iff_lt_mul
def S1:=@List.eraseIdx_sublist
def S2:=@Int.emod_add_mul_ediv
def S3:=@List.Pairwise.sublist
def S5:=@List.take_left
def T1:=@List.drop_drop
def T2:=@List.drop_left
def T3:=@List.mem_erase_of_ne
def T4:=@Int.emod_emod_of_dvd
def T5:=@List.tail_cons
def T6:=@List.take_zero
def T7:=@List.take_take
def T8:=@Bool.or_eq_false_iff
def T9:=@Array.toList_filter
def U1:=@Array.toList_append
def U2:=@List.filter_sublist
def V1:=@Prod.ext
def V4:=@List.map_set
def V5:=@Nat.lt_or_ge
def V6:=@Nat.min_def
def W0:=@Nat.mul_one
def W4 {o:Obj}:ql w (w.alloc o):=ql.alloc _ _
def W5 (h:P:=by simp[Value.oneCell']):P:=h
def X0 (h:P:=by rintro(e | e)<;>omega):P:=h
def ZP (a s:Int) (h:May a s) (w:World):
  Calls prog 285 #[ι a,ι s] w λe w'=>e= .returned (μ ό)/\w'=w:=by
 obtain⟨d,G,H,I⟩:=h
 go_enter func285,ntmps285
 go_wp2;go_ret;exact⟨rfl,rfl⟩
def BT (a s:Int) (G:I64 a) (H:I64 s) (h: ¬May a s) (w:World):
  Calls prog 285 #[ι a,ι s] w λe w'=>e= .returned (μ ύ)/\w'=w:=by
 obtain⟨I,J⟩:=G;obtain⟨M,N⟩:=H;have d:=κ h;clear h
 go_enter func285,ntmps285
 go_wp2
 all_goals
  go_ret;have h:=d.o;unfold May at h;exact⟨qZ (by first | rfl | (simp;omega)),rfl⟩
def Vw (s:Int) (d:0<=s) (G:s<=64) (w:World):
  Calls prog 286 #[ι s] w λe w'=>e= .returned (ψ (two s-1))/\w'=w:=by
 go_enter func286,ntmps286
 go_wp2;go_ret;exact⟨xV (EH s d G),rfl⟩
def QK (n:Int) (a s:Int) (G:U64 n) (h:May a s) (w:World):
  Calls prog 254 #[ψ n,ι a,ι s] w λe w'=>e= .returned (ψ (fld n a s))/\ ∃k,w'=w.drewN k:=by
 have I:=ZP a s h;have d:=Fj n a s G h;obtain⟨J,M,N,O⟩:=h;obtain⟨U,n2⟩:=G;have H:=κ d;clear d
 go_enter func254,ntmps254
 go_wp2_with (go_at_call 285;refine(I _).mono ?_;rintro e w' ⟨rfl,rfl⟩)
 go_quiet ((go_at_call 286;exact Calls.quiet_of_same (Vw s τ τ _)))
 go_wp2;go_ret;exact⟨xV H.o,_,rfl⟩
def FU (n v:Int) (a s:Int) (G:U64 n) (J:U64 v) (h:May a s) (w:World):
  Calls prog 278 #[ψ n,ι a,ι s,ψ v] w λe w'=>e= .returned (ψ (lay n a s v))/\ ∃k,w'=w.drewN k:=by
 have I:=ZP a s h;have d:=BY n a s v G J h;obtain⟨M,N,O,U⟩:=h;obtain⟨Y,n2⟩:=G;have H:=κ d;clear d
 go_enter func278,ntmps278
 go_wp2_with (first | (go_at_call 285;refine(I _).mono ?_;rintro e w' ⟨rfl,rfl⟩) | (go_at_call 286;refine(Vw _ τ τ _).mono ?_;rintro e w' ⟨rfl,rfl⟩))
 go_ret;exact⟨xV H.o,0,rfl⟩
def Lr (n v:Int) (a s:Int) (G:I64 a) (I:I64 s) (h: ¬May a s) (w:World):
  Calls prog 278 #[ψ n,ι a,ι s,ψ v] w λe w'=>e= .returned (ψ (lay n a s v))/\ ∃k,w'=w.drewN k:=by
 have H:=BT a s G I h;have d:=κ (show n=lay n a s v by unfold lay;rw[ώ h]);clear h
 go_enter func278,ntmps278
 go_wp2_with (go_at_call 285;refine(H _).mono ?_;rintro e w' ⟨rfl,rfl⟩)
 go_ret;exact⟨xV d.o,0,rfl⟩
def FV (n v:Int) (a s:Int) (G:U64 n) (I:U64 v) (d:I64 a) (H:I64 s) (w:World):
  Calls prog 278 #[ψ n,ι a,ι s,ψ v] w λe w'=>e= .returned (ψ (lay n a s v))/\ ∃k,w'=w.drewN k:=by
 by_cases h:May a s
 ·exact FU n v a s G I h w
 ·exact Lr n v a s d H h w
def U9 (n s:Int) (G:U64 n) (H:I64 s) (w:World):
  Calls prog 327 #[ψ n,ι s] w λe w'=>e= .returned (ι (sgd n s))/\w'=w:=by
 obtain⟨I,n2⟩:=G;obtain⟨s1,s2⟩:=H;by_cases h1:1<=s
 ·by_cases h2:s<=64
  ·have d:=κ (AV n s h1 h2)
   go_enter func327,ntmps327
   go_wp2;go_ret;exact⟨xV d.o,rfl⟩
  ·have d:=κ (show 0=sgd n s by unfold sgd;rw[ϐ τ])
   go_enter func327,ntmps327
   go_wp2;go_ret;exact⟨xV d.o,rfl⟩
 ·have d:=κ (show 0=sgd n s by unfold sgd;rw[ϐ τ])
  go_enter func327,ntmps327
  go_wp2;go_ret;exact⟨xV d.o,rfl⟩
def GB (d G:List Int) (j:Nat) (I:j<d.length) (J:j<G.length) (h:d.take j=G.take j) (H:(d[j] != G[j])=ύ):d.take (j+1)=G.take (j+1):=by
 rw[ϵ I,ϵ J,h];simp at H;rw[H]
def Xp (d G:List Int) (O vb:Value) (w:World) (ac:SlI .u8 w O d) (ad:SlI .u8 w vb G):
  Calls prog 60 #[O,vb] w λe w'=>e= .returned (μ (decide (d=G)))/\ ∃k,w'=w.drewN k:=by
 obtain⟨aq,ah,rfl,an,H,_,_,_⟩:=ac;obtain⟨ar,ai,rfl,ao,I,_,_,_⟩:=ad;by_cases hne:d.length=G.length
 ·have aa:((d.length:Int) != (G.length:Int))=ύ:=by simp[hne]
  have U:=κ H;have Y:=κ I;have af:=κ hne;clear H I;have ap:G.length<=d.length:=by omega
  have al:d.length<=G.length:=by omega
  clear hne
  go_enter func60,ntmps60
  go_wp2
  go_loopw [5] (λi wr=> ∃j k:Nat,j<=d.length/\i= ι j/\d.take j=G.take j/\wr=w.drewN k) (λi _=>d.length-(intOf i).toNat)
  case atStart=>exact⟨0,0,τ,rfl,rfl,rfl⟩
  case round=>
   obtain⟨j,k,am,rfl,N,rfl⟩:=hrel;have M:=κ N;clear N;by_cases hlt:j<d.length
   ·obtain⟨b,au,rfl,_,aj⟩:=U.o j hlt;obtain⟨ag,av,rfl,_,ak⟩:=Y.o j τ;have ae:j<G.length:=by omega
    go_wp2
    go_quiet (fail)
    go_wp2
    ·go_ret;have J: ¬d=G:=by
      intro e;subst e;have:(d[j] != d[j])=ό:=by assumption
      simp at this
     exact⟨qZ (by simp[J]),_,World.drewN_drewN _ _ _⟩
    ·have J:(d[j] != G[j])=ύ:=by assumption
     go_roundw
     case rel=>exact⟨j+1,_,τ,by go_num,GB d G j hlt ae M.o J,rfl⟩
     case measure=>simp[intOf];omega
   ·go_wp2;go_ret;exact⟨qZ (by simp;have:=M.o;rw[E9 τ,E9 τ] at this;exact this),_,rfl⟩
 ·have aa:((d.length:Int) != (G.length:Int))=ό:=by simp;omega
  have ab:Hid (¬d=G):=λh=>hne (by rw[h])
  clear H I hne
  go_enter func60,ntmps60
  go_wp2;go_ret;exact⟨qZ (by simp[ab.o]),0,rfl⟩
def KD (l:List Int) (v:Value) (w:World) (af:8<l.length) (ac:SlI .u8 w v l) (N:Byt l):
  Calls prog 167 #[v] w λe w'=>e= .returned (ψ (num l))/\w'=w:=by
 obtain⟨an,cap,rfl,al,G,ag,_,_⟩:=ac;obtain⟨b,ad,rfl,_,_⟩:=G 0 τ;have aa:=κ G;have Y:=κ N;have I:=κ (Sz l);clear G N
 go_enter func167,ntmps167
 go_wp2;obtain⟨d,U⟩: ∃d,d=l.length-8:=⟨_,rfl⟩;have J:=κ (show (l.drop d).length=8 by simp;omega);have aj:d+8<=l.length:=by omega
 have ai:l.length<=d+8:=by omega
 rw[<-U] at I ⊢;clear U
 go_loop [4,14] (λn i=> ∃j:Nat,j<=8/\i= ι j/\n= ψ (num ((l.drop d).take j))) (λ_ i=>8-(intOf i).toNat)
 case atStart=>exact⟨0,τ,rfl,by simp[num]⟩
 case round=>
  obtain⟨j,ak,rfl,rfl⟩:=hrel;by_cases hlt:j<8
  ·obtain⟨ae,ao,M,_,O⟩:=aa.o (d+j) τ;simp only[M5,Addr.mk.injEq,and_true] at M;obtain⟨rfl,rfl⟩:=M;have am:d+j<l.length:=by omega
   have ah:w.cell? ⟨b,ad+d+j,ϋ⟩=ϊ (υ (l.getD (d+j) 0)):=by rw[M0];exact O
   clear O
   have H:=ZJ (l.drop d) j (by rw[J.o];exact hlt) (λi=>by
    have:=Y.o (d+i)
    rwa [ϑ,D1,<-ϑ])
   rw[List.getElem_drop] at H;have ab:=κ H;clear H;go_wp2
   go_round
   case rel=>exact⟨j+1,τ,by go_num,by rw[<-ab.o]⟩
   case measure=>simp[intOf];omega
  ·go_wp2;go_ret;exact⟨xV (by rw[E9 (by rw[J.o];omega)];exact I.o),rfl⟩
def Va (l:List Int) (v:Value) (w:World) (N:l.length<=8) (M:SlI .u8 w v l) (d:Byt l):
  Calls prog 167 #[v] w λe w'=>e= .returned (ψ (num l))/\w'=w:=by
 obtain⟨ab,cap,rfl,aa,G,O,_,_⟩:=M;have I:=κ G;have H:=κ d;clear G d
 go_enter func167,ntmps167
 go_wp2
 go_loop [4,14] (λn i=> ∃j:Nat,j<=l.length/\i= ι j/\n= ψ (num (l.take j))) (λ_ i=>l.length-(intOf i).toNat)
 case atStart=>exact⟨0,τ,rfl,by simp[num]⟩
 case round=>
  obtain⟨j,Y,rfl,rfl⟩:=hrel;by_cases hlt:j<l.length
  ·obtain⟨b,ac,rfl,_,U⟩:=I.o j hlt;have J:=κ (ZJ l j hlt H.o);go_wp2
   go_round
   case rel=>exact⟨j+1,τ,by go_num,by rw[<-J.o]⟩
   case measure=>simp[intOf];omega
  ·go_wp2;go_ret;exact⟨xV (by rw[E9 τ]),rfl⟩
def gg (l:List Int) (v:Value) (w:World) (G:SlI .u8 w v l) (d:Byt l):
  Calls prog 167 #[v] w λe w'=>e= .returned (ψ (num l))/\w'=w:=by
 by_cases h:8<l.length
 ·exact KD l v w h G d
 ·exact Va l v w τ G d
def Fi:(prog.info? 5).map (λi=>(i.zero,i.size,i.bytes))=ϊ (ϊ (υ 0),1,1):=by kernel_rfl
def Dz (n:Int) (s:Nat) (N:U64 n) (ac:s<=8) (w:World):
  Calls prog 208 #[ψ n,ι s] w λe w'=> ∃v,e= .returned v/\SlI .u8 w' v (bys n s)/\ql w w':=by
 obtain⟨ae,n2⟩:=N;obtain⟨ab,hi,U,Y,aa⟩:=info_parts Fi
 go_enter func208,ntmps208
 go_wp2_with (at_make;refine wpList_make_full _ rfl _ _ 35 rfl w.heap.size 5 ab (υ 0) 1 underlying35 hi U Y _ _ _ _ s rfl rfl τ τ ?c1 ?c2 ?c3 ?_)
 case c1=>rw[aa];omega
 case c2=>unfold maxLen;omega
 case c3=>omega
 intro w1 d H;have G:Below w.heap.size w w1:=(Below.refl _ _).grown H τ η;have I:w1.ownsRow w.heap.size 5 1 (δ (ϊ ⟨w.heap.size,0,ϋ⟩) s s) s ((vY n s 0).map (Value.int .u8)):=by
  rw[U0];simpa [toList_madeCells_one] using d
 clear d H;go_wp2
 go_loopw [16] (λi wr=> ∃k:Nat,k<=s/\i= ι k/\wr.ownsRow w.heap.size 5 1 (δ (ϊ ⟨w.heap.size,0,ϋ⟩) s s) s ((vY n s k).map (Value.int .u8))/\Below w.heap.size w wr) (λi _=>s-(intOf i).toNat)
 case atStart=>exact⟨0,τ,rfl,I,G⟩
 case round=>
  obtain⟨k,M,rfl,d,G⟩:=hrel;clear I;by_cases hlt:k<s
  ·have J:=d.cellAt (s-1-k) τ;have ad:=d.frozenAt (s-1-k);have O:=d.stored (s-1-k) (υ (by8 n k));rw[G4,ϖ (by rw[Y4];omega),C6] at J;go_wp2;go_roundw
   case rel=>exact⟨k+1,τ,by go_num,by rw[<-Dh n s k hlt,V4];exact O.1,G.setCell (ϕ _) _⟩
   case measure=>simp[intOf];omega
  ·obtain rfl:k=s:=by omega
   clear hlt M;go_wp2;refine bodyPost_ret (v:= δ (ϊ ⟨w.heap.size,0,ϋ⟩) k k) (by simp[results,results208,go_sem]) rfl ?_;rw[U3] at d;have:=zP n k;exact⟨_,rfl,SlI.of_owns (by rw[this];exact d) (by rw[this];omega),G⟩
def Ej (n s:Int) (d:1<=s) (G:s<=64):sgd n s%two s=n%two s:=by
 unfold sgd;rw[ώ τ];split
 ·exact T4 _ (Int.dvd_refl _)
 ·rw[Int.sub_emod_right];exact T4 _ (Int.dvd_refl _)
def KR (n s:Int) (G:1<=s) (H:s<=64): -two (s-1)<=sgd n s/\sgd n s<two (s-1):=by
 have b:=gy (s-1);have q:=JX (k:=s-1) τ;rw[show s-1+1=s from by omega] at q;have c:=R0 n (b:=two s) τ;have d:=O5 n (b:=two s) τ;unfold sgd;rw[ώ τ];split<;>omega
def EW (n a s v:Int) (d:U64 n):U64 (lay n a s v):=by
 unfold lay;split
 ·have:=EX n.toNat a.toNat s.toNat v.toNat;unfold U64;omega
 ·exact d
def Py (n a s v:Int) (h:May a s):(lay n a s v).toNat=DC n.toNat a.toNat s.toNat v.toNat:=by
 unfold lay;rw[ϐ h];simp
def BN {G d:Nat} (I:G<18446744073709551616) (H:d<18446744073709551616) (h: ∀i,i<64->G.testBit i=d.testBit i):G=d:=by
 apply Nat.eq_of_testBit_eq;intro i;by_cases hi:i<64
 ·exact h i hi
 ·rw[Q5 (ϗ (m:=2 ^ 64) I (D2 τ τ)),Q5 (ϗ (m:=2 ^ 64) H (D2 τ τ))]
def VA (n:Int) (k:Nat):yJ (bys n k)=n%2 ^ (8* k):=by
 induction k with
 | zero=>simp[bys,yJ,Int.emod_one]
 | succ k ih=>
  rw[Cq,show by8 n k::bys n k=[by8 n k]++bys n k from rfl,OA,ih,zP];unfold by8;rw[show (8* (k+1))=8* k+8 from by omega,Int.pow_add,show ((256:Int) ^ k)=2 ^ (8* k) from by rw[Int.pow_mul];rfl];have e:yJ [n/2 ^ (8* k)%256]=n/2 ^ (8* k)%256:=by simp[yJ]
  rw[e];have I:(0:Int)<2 ^ (8* k):=Int.pow_pos ζ;have d:=S2 n (2 ^ (8* k));have G:=S2 (n/2 ^ (8* k)) 256;have J:=R0 n (b:=2 ^ (8* k)) τ;have M:=O5 n I;have N:=R0 (n/2 ^ (8* k)) (b:=256) τ;have O:=O5 (n/2 ^ (8* k)) (b:=256) τ;generalize (2:Int) ^ (8* k)=P at *;generalize n%P=R at *;generalize aa:n/P=Q at *;generalize Q%256=r at *;generalize Q/256=q at *;have Y:r* P<=255* P:=Int.mul_le_mul_of_nonneg_right τ τ;have U:0<=r* P:=Int.mul_nonneg τ τ;have H:n=(r* P+R)+(P* 256)* q:=by
   rw[<-d,<-G,Int.mul_add,Int.mul_comm P r,<-Int.mul_assoc];omega
  rw[show (2:Int) ^ 8=256 from by decide];rw[H,Int.add_mul_emod_self_left];exact(F1 τ τ).symm
def Byt.snoc {x:Int} (h:Byt (l++[x])):Byt l/\0<=x/\x<=255:=by
 constructor
 ·intro i;by_cases hi:i<l.length
  ·have:=h i
   rwa [ϑ,ϻ hi,<-ϑ] at this
  ·rw[ϑ,F3 τ];simp
 ·have:=h l.length;rw[ϑ,Ϻ (ϕ _)] at this
  simpa using this
def SC (l:List Int): ∀m:List Int,l.length=m.length->Byt l->Byt m->yJ l=yJ m->l=m:=by
 refine gM (P:=λl=> ∀m:List Int,l.length=m.length->Byt l->Byt m->yJ l=yJ m->l=m) ?_ ?_ l
 ·intro m h _ _ _;exact(Ϧ (by simpa using h.symm)).symm
 ·intro l x O m d M H J;rcases List.eq_nil_or_concat m with rfl | ⟨m',y,rfl⟩
  ·simp at d
  ·rw[List.concat_eq_append] at *;rw[yR,yR] at J;obtain⟨N,U⟩:=M.snoc;obtain⟨I,Y⟩:=H.snoc;have G:x=y:=by omega
   have:=O m' (by simpa using d) N I τ;rw[this,G]
def JF (n:Int) (k:Nat):Byt (bys n k):=by
 intro i;rw[ϑ];by_cases hi:i<(bys n k).length
 ·rw[ϖ hi,ϥ];simp only[bys,J1];exact IX _ _
 ·rw[F3 τ];simp
def Yy (l:List Int) (h:Byt l):0<=yJ l/\yJ l<2 ^ (8* l.length):=by
 revert h
 refine gM (P:=λl=>Byt l->0<=yJ l/\yJ l<2 ^ (8* l.length)) ?_ ?_ l
 ·intro _;simp[yJ]
 ·intro l x G h;obtain⟨d,H⟩:=h.snoc;have:=G d;rw[yR,Ϗ,M9,show 8* (l.length+1)=8* l.length+8 from by omega,Int.pow_add,show (2:Int) ^ 8=256 from by decide];omega
def uD (l:List Int) (h:Byt l) (H:l.length<=8):num l=yJ l:=by
 have d:=Yy l h;have G:(2:Int) ^ (8* l.length)<=2 ^ 64:=by
  have:=D2 (n:=2) τ (show 8* l.length<=64 by omega)
  exact_mod_cast this
 rw[Xh];exact F1 d.1 (J6 d.2 G)
def Fv (l:List Int) (h:Byt l) (G:l.length<=8):bys (num l) l.length=l:=by
 apply SC _ _ (zP _ _) (JF _ _) h;have d:=Yy l h;rw[VA,uD l h G];exact F1 d.1 d.2
def qy (n s:Int):List Int:=if 0<=s/\s<=8 then bys n s.toNat else []
def gQ (n s:Int) (h:0<=s/\s<=8):qy n s=bys n s.toNat:=by unfold qy;rw[ϐ h]
def DA (n s:Int) (G:U64 n) (H:I64 s) (w:World):
  Calls prog 208 #[ψ n,ι s] w λe w'=> ∃v,e= .returned v/\SlI .u8 w' v (qy n s)/\ql w w':=by
 obtain⟨s1,s2⟩:=H;by_cases h:0<=s/\s<=8
 ·obtain⟨S,rfl⟩:=Γ h.1;rw[gQ _ _ h,ο];exact Dz n S G τ w
 ·have d:=κ (show qy n s=[] by unfold qy;rw[ώ h]);by_cases h1:0<=s
  ·have I:8<s:=by omega
   clear h
   go_enter func208,ntmps208
   go_wp2;go_ret;exact⟨_,rfl,by rw[d.o];exact SlI.nil _ _,ql.refl _⟩
  ·clear h
   go_enter func208,ntmps208
   go_wp2;go_ret;exact⟨_,rfl,by rw[d.o];exact SlI.nil _ _,ql.refl _⟩
def qU {P:Program} (w:World) {o:Oper} (J:o.guard=ϋ) (s x:Operand) (t:TypeId)
  (N:o.op= .call {callee:= .builtin .append,args:= #[s,x],argTypes:= #[t,t]})
  (base:Nat) (e:TypeId) (i:TypeInfo) (z:Value) (bytes:Nat) (U:P.underlying t=ϊ (.slice e)) (hi:P.info? e=ϊ i) (aw:i.zero=ϊ z)
  (au:i.size=1) (ak:i.bytes=bytes) (ax:z.cells.size=1)
  (v:Value) (k:IntKind) (l:List Int) (O:a.eval s=v) (H:w.ownsRow base e 1 v l.length (l.map (Value.int k)))
  (ac:Value) (d:List Int) (Y:a.eval x=ac) (an:SlI k w ac d)
  (al:(l.length+d.length)* bytes<=140737488355328) (az:1<=bytes) (aj:base<=w.heap.size)
  (h: ∀v' w',w'.ownsRow base e 1 v' (l++d).length ((l++d).map (Value.int k))->w.grownBy w' v.ownBlock->(v'.ownBlock=v.ownBlock∨v'.ownBlock=ϊ w.heap.size)->wpList P ops Q rest (a.put o.dst v') w'):wpList P ops Q (o::rest) a w:=by
 have ai:l.length+d.length<=maxLen:=by
  have:=J0 (l.length+d.length) (show 0<bytes by omega);unfold maxLen;omega
 obtain⟨ay,cap,rfl,aA,ao,aB,aC,ap⟩:=an;cases ay with
 | none=>
  have G:cap=0:=ap rfl;subst G;have ar:d=[]:=Ϧ τ;subst ar;refine wpList_append_own_none J s x t N base e i 1 U hi v l.length (l.map (Value.int k)) O H Y ?_;exact h v w (by simpa using H) ⟨rfl,rfl,rfl,ϕ _,λ_ _ _=>rfl⟩ (ϒ rfl)
 | some ad=>
  refine wpList_append_own_at w J s x t N base e i z 1 bytes U hi aw au ak ax ζ v l.length (l.map (Value.int k)) O H ad d.length cap (d.map (Value.int k)) Y η ?_ ?_ ai al aj ?_
  ·intro j u M;rw[G4] at M;obtain⟨y,aa,rfl⟩:=M4.1 M;obtain⟨aq,aD⟩:=Ϛ.1 aa;obtain⟨b,ab,I,_,am⟩:=ao j aq;simp only[M5] at I;subst I;have ae:(⟨b,ab,ϋ⟩:Addr).add j=⟨b,ab+j,ϋ⟩:=by
    unfold Addr.add;split
    ·rename_i G;subst G;rfl
    ·rfl
   rw[ae,am,ϑ,aa];rfl
  ·intro u av;obtain⟨y,_,rfl⟩:=B6.1 av;rfl
  ·intro v' w' af ag _ ah;exact h v' w' (by simpa using af) ag ah
def XB {e size:Nat} {u:Value} (h:w.ownsRow base e size v n xs) (g:w.grownBy w' u.ownBlock) (d: ∀b,v.ownBlock=ϊ b->u.ownBlock≠ϊ b):w'.ownsRow base e size v n xs:=by
 obtain⟨G,H⟩:=h;refine⟨G, ?_⟩;rcases H with h | ⟨b,cap,cur,e1,hb,hg,rest⟩
 ·exact ϒ h
 ·refine ϔ ⟨b,cap,cur,e1,hb, ?_,rest⟩;rw[g.block b (lt_of_block hg) (by rw[e1] at d;exact λe=>d b rfl e.symm)];exact hg
def gB {e size:Nat} (h:w.ownsRow base e size v n xs) (d:v.ownBlock=ϊ b):b<w.heap.size:=by
 rcases h.2 with ⟨rfl,_⟩ | ⟨G,cap,cur,rfl,_,H,_⟩
 ·cases d
 ·obtain rfl:G=b:=by injection d
  exact lt_of_block H
def jE {e size:Nat} (h:w.ownsRow base e size v n xs) (m:ql w w'):w'.ownsRow base e size v n xs:=by
 obtain⟨d,G⟩:=h;refine⟨d, ?_⟩;rcases G with h | ⟨b,cap,cur,e1,hb,hg,rest⟩
 ·exact ϒ h
 ·exact ϔ ⟨b,cap,cur,e1,hb,by rw[m.block b (lt_of_block hg)];exact hg,rest⟩
def SlI.take (h:SlI k w (δ G n cap) l) (m:Nat) (ab:m<=l.length):SlI k w (δ G m cap) (l.take m):=by
 obtain⟨ac,U,e,Y,H,aa,I,J⟩:=h;cases e;have d:(l.take m).length=m:=by simp;omega
 refine⟨G,cap,by rw[d],by rw[d];omega,λi hi=> ?_,by rw[d];omega,I,J⟩;rw[d] at hi;obtain⟨b,O,e,M,N⟩:=H i τ;exact⟨b,O,e,M,by rw[N,ϑ,ϑ,B3,ϐ hi]⟩
def SlI.take3 (h:SlI k w (δ G n cap) l) (m:Nat) (ab:m<=l.length):SlI k w (δ G m m) (l.take m):=by
 obtain⟨ac,O,e,U,H,Y,aa,I⟩:=h;cases e;have d:(l.take m).length=m:=by simp;omega
 refine⟨G,m,by rw[d],by rw[d];omega,λi hi=> ?_,by rw[d];omega,τ,λx=>by have:=I x;omega⟩;rw[d] at hi;obtain⟨b,N,e,J,M⟩:=H i τ;exact⟨b,N,e,J,by rw[M,ϑ,ϑ,B3,ϐ hi]⟩
def SlI.drop {d:Nat} (h:SlI k w (δ (ϊ ⟨b,d,ϋ⟩) n cap) l) (m:Nat) (aa:m<=l.length):SlI k w (δ (ϊ ⟨b,d+m,ϋ⟩) (n-m) (cap-m)) (l.drop m):=by
 obtain⟨ab,M,e,N,G,O,U,Y⟩:=h;cases e;refine⟨_,cap-m,by rw[ϣ],by rw[ϣ];omega,λi hi=> ?_,by rw[ϣ];omega,τ,λh=>by cases h⟩;rw[ϣ] at hi;obtain⟨J,ac,e,H,I⟩:=G (m+i) τ;cases e;refine⟨b,d+m,rfl,H, ?_⟩;rw[M0,I,ϑ,ϑ,D1]
def SlI.from_ (h:SlI k w (δ d n cap) l) (m:Nat) (ae:m<=l.length) (H:Option Addr) (G:H=if cap=m then d else d.map (·.add m)):SlI k w (δ H (n-m) (cap-m)) (l.drop m):=by
 obtain⟨af,aa,e,ab,O,ac,ad,J⟩:=h;cases e;refine⟨H,cap-m,by rw[ϣ],by rw[ϣ];omega,λi hi=> ?_,by rw[ϣ];omega,τ,λh=> ?_⟩
 ·rw[ϣ] at hi;obtain⟨b,I,e,U,Y⟩:=O (m+i) τ;rw[ώ τ,e] at G;have M:(⟨b,I,ϋ⟩:Addr).add m=⟨b,I+m,ϋ⟩:=by
   unfold Addr.add;split
   ·rename_i N;subst N;rfl
   ·rfl
  refine⟨b,I+m,by rw[G,C6,M],U, ?_⟩;rw[M0,Y,ϑ,ϑ,D1]
 ·subst G;split at h
  ·have:=J h;omega
  ·cases d with
   | none=>have:=J rfl;omega
   | some a=>simp at h
def Od (v:Value) (l:List Int) (w:World) (I:SlI .u8 w v l) (ak:l.length<=1000000):
  Calls prog 50 #[v] w λe w'=> ∃v',e= .returned v'/\w'.ownsRow w.heap.size 5 1 v' l.length (l.map (Value.int .u8))/\ql w w':=by
 obtain⟨af,hi,ab,ac,ae⟩:=info_parts (P:=prog) (e:=5) (z:= υ 0) (size:=1) (bytes:=1) ξ;have d:=κ I;obtain⟨ag,cap,rfl,ah,G,ai,aj,H⟩:=I;cases ag with
 | none=>
  have N:cap=0:=H rfl;subst N;obtain rfl:l=[]:=Ϧ τ;clear d G;have U:=Go.run_eql_slice_nil (P:=prog) w 35 5 ϋ 0 0 underlying35
  go_enter func50,ntmps50
  go_wp2;go_ret;exact⟨_,rfl,⟨rfl,ϒ ⟨rfl,rfl⟩⟩,ql.refl _⟩
 | some ad=>
  have Y:=World.ownsRow_lit (e:=5) (size:=1) (base:=w.heap.size) w #[] 0 (ϕ _) (by unfold maxLen;omega) rfl;clear G H;have U:=Go.run_eql_slice_nil (P:=prog) w 35 5 (ϊ ad) l.length cap underlying35
  go_enter func50,ntmps50
  go_wp2_with (at_builtin;refine xr _ rfl (.tmp 5) (.tmp 6) 35 rfl w.heap.size 5 af (υ 0) 1 underlying35 hi ab ac ae rfl _ .u8 [] rfl Y _ l rfl (d.o.keep W4) (by simp;omega) ζ (ql.alloc w _).size ?_;intro v' w2 aa O;have M:=κ aa;have J:=κ O)
  go_ret;exact⟨_,rfl,M.o,(ql.alloc w (.cells #[] 5)).grown J.o (ql.alloc w _).size (by intro q h;cases h;exact ϕ _)⟩
def xC {e size:Nat} (h:w.ownsRow base e size v n xs) (m:jt S w w') (H: ∀k,S k->k<base):w'.ownsRow base e size v n xs:=by
 obtain⟨d,G⟩:=h;refine⟨d, ?_⟩;rcases G with h | ⟨g,cap,cur,e1,hb,hg,rest⟩
 ·exact ϒ h
 ·exact ϔ ⟨g,cap,cur,e1,hb,m.blk hg (λx=>by have:=H g x;omega),rest⟩
def qT {e:Nat} (h:w.ownsRow base e 1 v n xs): ∃oa m cap,v= δ oa m cap/\m=n/\n<=cap:=by
 rcases h.2 with ⟨rfl,e⟩ | ⟨b,cap,cur,rfl,_,_,d,_⟩
 ·exact⟨ϋ,0,0,rfl,τ,τ⟩
 ·exact⟨_,_,cap,rfl,rfl,d⟩
def PI {e size:Nat} {o:Obj} (g:w.grownBy w' v.ownBlock) (G:w.ownsRow base e size v n xs) (H:b<base) (h:w.heap[b]? =ϊ o):w'.heap[b]? =ϊ o:=by
 rw[g.block b (qn h)]
 ·exact h
 ·rcases G.2 with ⟨rfl,_⟩ | ⟨d,cap,cur,rfl,I,_⟩
  ·exact λx=>by cases x
  ·intro x;have:b=d:=by injection x
   omega
structure j5 (w:World) (W:Nat) (v:Value) (l:List Int):Prop where
 blk:w.heap[W]? =ϊ (.cells #[v] 204 (0,0))
 row:w.ownsRow (W+1) 5 1 v l.length (l.map (Value.int .u8))
def WrS (W:Nat) (v:Value) (b:Nat):Prop:=b=W∨v.ownBlock=ϊ b
def Cw (h:j5 w W v l) (vb:Value) (H:List Int) (O:SlI .u8 w vb H) (ap:l.length+H.length<=10000000):
  Calls prog 96 #[γ W,vb] w λe w'=>e= .returned (.tuple #[])/\(∃v',j5 w' W v' (l++H)/\(v'.ownBlock=v.ownBlock∨v'.ownBlock=ϊ w.heap.size))/\jt (WrS W v) w w':=by
 obtain⟨ak,hi,ah,ai,aj⟩:=info_parts (P:=prog) (e:=5) (z:= υ 0) (size:=1) (bytes:=1) ξ;have al:=β0 h.blk;have an:=yw h.blk 0;have ad:=qn h.blk;have I:=κ h;have ac:=κ O;clear h O
 go_enter func96,ntmps96
 go_wp2_with (at_builtin;refine qU _ rfl (.tmp 8) (.tmp 9) 35 rfl (W+1) 5 ak (υ 0) 1 underlying35 hi ah ai aj rfl v .u8 l rfl I.o.row _ H rfl ac.o τ ζ ad ?_;intro v' w2 M J N;have aa:=κ M;have d:=κ J;have Y:=κ N;have G:=PI J I.o.row (F5 W) I.o.blk;have c2:=β0 G;have ao:=yw G 0;have ab:=κ G;obtain⟨ar,aq,am,rfl,af⟩:=qT M;clear M J N G af)
 refine bodyPost_end (v:= .tuple #[]) ?rr rfl ?_
 case rr=>simp[results,results96,go_sem]
 have U:jt (WrS W v) w w2:=⟨d.o.os,d.o.tape,d.o.output,d.o.size,λk ae ag=>d.o.block k ae (λe=>ag (ϔ e.symm))⟩;refine⟨rfl,⟨_,⟨qB (qp ab.o 0 _) rfl, ?_⟩,Y.o⟩,U.set (ϒ rfl) _⟩;exact xC (S:=λb=>b=W) aa.o ((jt.refl (λb=>b=W) w2).set (p:=⟨W,0,ϋ⟩) rfl _) (by rintro k rfl;exact F5 _)
def j5.more (h:j5 w W v l) (m:ql w w'):j5 w' W v l:=⟨qq m h.blk,jE h.row m⟩
def un (w w':World) (W:Nat) (v:Value) (l:List Int):Prop:=
 (∃v',j5 w' W v' l/\(v'.ownBlock=v.ownBlock∨ ∃g,v'.ownBlock=ϊ g/\w.heap.size<=g))/\jt (WrS W v) w w'
def un.after {w1:World} (m:ql w w1) (h:un w1 w' W v l):un w w' W v l:=by
 obtain⟨⟨v',G,d⟩,a⟩:=h;refine⟨⟨v',G, ?_⟩,(jt.of_more m).trans a⟩;rcases d with d | ⟨g,d,h3⟩
 ·exact ϒ d
 ·exact ϔ ⟨g,d,Ϙ m.size h3⟩
def uU (h:j5 w W v l) (vb:Value) (d:List Int) (M:SlI .u8 w vb d) (J:l.length+d.length<=10000000):
  Calls prog 96 #[γ W,vb] w λe w'=>e= .returned (.tuple #[])/\un w w' W v (l++d):=
 (Cw h vb d M J).mono λ_ _ ⟨I,⟨v',G,H⟩,a⟩=>⟨I,⟨v',G,H.imp id λe=>⟨_,e,ϕ _⟩⟩,a⟩
def uG (h:j5 w W v l) (n s:Int) (H:0<=n/\n<=4294967295) (aa:1<=s/\s<=4) (U:l.length<=1000000):
  Calls prog 155 #[γ W,ω n,ι s] w λe w'=>e= .returned (.tuple #[])/\un w w' W v (l++qy n s):=by
 have G:=κ h;have Y:(qy n s).length<=8:=by
  obtain⟨k,rfl⟩: ∃k:Nat,s=k:=⟨s.toNat,τ⟩;unfold qy;rw[ϐ τ,zP];omega
 have I:U64 n:=by unfold U64;omega
 have M:I64 s:=by unfold I64;omega
 obtain⟨ab,n2⟩:=H;clear h
 go_enter func155,ntmps155
 go_wp2_with first | (go_at_call 208;refine(DA n s I M _).mono ?_;rintro e w1 ⟨O,rfl,J,d⟩) | (go_at_call 96;refine(uU (G.o.more d) O _ J τ).mono ?_;rintro e w2 ⟨rfl,N⟩)
 refine bodyPost_end (v:= .tuple #[]) ?rr rfl ?_
 case rr=>simp[results,results155,go_sem]
 exact⟨rfl,N.after d⟩
def wk (h:j5 w W v l) (n:Int) (I:0<=n/\n<=255) (H:l.length<=1000000):
  Calls prog 93 #[γ W,υ n] w λe w'=>e= .returned (.tuple #[])/\un w w' W v (l++qy n 1):=by
 have G:=κ h;have J:0<=n/\n<=4294967295:=by omega
 have d:=κ J;obtain⟨N,n2⟩:=I;clear h
 go_enter func93,ntmps93
 go_wp2_with (go_at_call 155;refine(uG G.o n 1 d.o ζ H).mono ?_;rintro e w2 ⟨rfl,M⟩)
 refine bodyPost_end (v:= .tuple #[]) ?rr rfl ?_
 case rr=>simp[results,results93,go_sem]
 exact⟨rfl,M⟩
def kU (h:j5 w W v l) (n:Int) (I:0<=n/\n<=65535) (H:l.length<=1000000):
  Calls prog 94 #[γ W,φ n] w λe w'=>e= .returned (.tuple #[])/\un w w' W v (l++qy n 2):=by
 have G:=κ h;have J:0<=n/\n<=4294967295:=by omega
 have d:=κ J;obtain⟨N,n2⟩:=I;clear h
 go_enter func94,ntmps94
 go_wp2_with (go_at_call 155;refine(uG G.o n 2 d.o ζ H).mono ?_;rintro e w2 ⟨rfl,M⟩)
 refine bodyPost_end (v:= .tuple #[]) ?rr rfl ?_
 case rr=>simp[results,results94,go_sem]
 exact⟨rfl,M⟩
def uw (h:j5 w W v l) (n:Int) (I:0<=n/\n<=4294967295) (H:l.length<=1000000):
  Calls prog 95 #[γ W,ω n] w λe w'=>e= .returned (.tuple #[])/\un w w' W v (l++qy n 4):=by
 have G:=κ h;have J:0<=n/\n<=4294967295:=by omega
 have d:=κ J;obtain⟨N,n2⟩:=I;clear h
 go_enter func95,ntmps95
 go_wp2_with (go_at_call 155;refine(uG G.o n 4 d.o ζ H).mono ?_;rintro e w2 ⟨rfl,M⟩)
 refine bodyPost_end (v:= .tuple #[]) ?rr rfl ?_
 case rr=>simp[results,results95,go_sem]
 exact⟨rfl,M⟩
def wZ (h:j5 w W v l) (G:l.length<=1000000):
  Calls prog 97 #[γ W] w λe w'=> ∃v',e= .returned v'/\w'.ownsRow w.heap.size 5 1 v' l.length (l.map (Value.int .u8))/\ql w w':=by
 have J:=β0 h.blk;have d:=κ (SlI.of_owns h.row τ);clear h
 go_enter func97,ntmps97
 go_wp2_with (go_at_call 50;refine(Od v l w d.o G).mono ?_;rintro e w2 ⟨M,rfl,I,H⟩)
 go_ret;exact⟨_,rfl,I,H⟩
def jG {e size:Nat} (h:w.ownsRow base e size v n xs) (d:v.ownBlock=ϊ b):base<=b:=by
 rcases h.2 with ⟨rfl,_⟩ | ⟨G,cap,cur,rfl,H,_⟩
 ·cases d
 ·obtain rfl:G=b:=by injection d
  exact H
def un.to_more {d:World} {J:List Int} (I:un w w' W v l) (h:j5 w W v J) (m:ql d w) (G:d.heap.size<=W):ql d w':=
 jt.to_more m I.2 (by
  rintro k (rfl | H)
  ·exact G
  ·have:=jG h.row H;omega)
def Jv {d:World} (a:jt (λb=>b=R) w w') (m:ql d w) (G:d.heap.size<=R):ql d w':=
 jt.to_more m a (by rintro k rfl;exact G)
def wR (w:World):j5 (w.alloc (.cells #[δ ϋ 0 0] 204)) w.heap.size (δ ϋ 0 0) []:=⟨qj _ _,⟨rfl,ϒ ⟨rfl,rfl⟩⟩⟩
structure WrK (w0 w:World) (W:Nat) (v:Value) (l:List Int) (B:Nat) (o:Obj):Prop where
 wr:j5 w W v l
 more:ql w0 w
 base:w0.heap.size<=W
 keep:w.heap[B]? =ϊ o
 ne: ¬B=W
 apart:v.ownBlock≠ϊ B
def WrK.new {d:World} (o:Obj) (h:j5 w W v l) (m:ql d w) (b:d.heap.size<=W):WrK d (w.alloc o) W v l w.heap.size o:=
 ⟨h.more (ql.alloc w o),m.al o,b,qj w o,λe=>by have:=qn h.blk;omega,λe=>by have:=gB h.row e;omega⟩
def WrK.wrote {G:World} {l':List Int} {o:Obj} (h:WrK G w W v l B o) (x:un w w' W v l'): ∃v',WrK G w' W v' l' B o:=by
 have I:=x.to_more h.wr h.more h.base;obtain⟨⟨v',H,d⟩,a⟩:=x;refine⟨v',H,I,h.base,a.blk h.keep ?_,h.ne, ?_⟩
 ·rintro(e | e)
  ·exact h.ne e
  ·exact h.apart e
 ·intro e;rcases d with d | ⟨g,d,h3⟩
  ·exact h.apart (by rw[<-d];exact e)
  ·rw[e] at d;obtain rfl:B=g:=by injection d
   have:=qn h.keep;omega
structure qu (w:World) (R:Nat) (left:List Int) (wrong:Int) (C:Nat->Prop:=λ_=>True):Prop where
 blk: ∃v,w.heap[R]? =ϊ (.cells #[v,.int .i64 wrong] 247 (0,0))/\SlI .u8 w v left/\(¬left=[]-> ∀g,v.ownBlock=ϊ g->C g)
 small:left.length<=1000000
 byt:Byt left
 shut: ¬wrong=0->left=[]
def qu.more (h:qu w R l e C) (m:ql w w'):qu w' R l e C:=by
 obtain⟨⟨v,d,G,M⟩,H,I,J⟩:=h;exact⟨⟨v,qq m d,G.keep m,M⟩,H,I,J⟩
def qu.mono (h:qu w R l e C) (k: ∀g,C g->D g):qu w R l e D:=by
 obtain⟨⟨v,d,G,M⟩,H,I,J⟩:=h;exact⟨⟨v,d,G,λx g y=>k g (M x g y)⟩,H,I,J⟩
def qu.old (h:qu w R l e C):qu w R l e (λg=>C g/\g<w.heap.size):=by
 obtain⟨⟨v,G,d,M⟩,H,I,J⟩:=h;refine⟨⟨v,G,d,λx g y=>⟨M x g y, ?_⟩⟩,H,I,J⟩;obtain⟨U,cap,rfl,_,O,_⟩:=d;obtain⟨b,Y,rfl,N,_⟩:=O 0 (B4.2 x);obtain rfl:b=g:=by injection y
 exact N
def AU (h:SlI .u8 w v l) (J: ¬l=[]-> ∀b,v.ownBlock=ϊ b-> ¬D b) (a:jt D w w'):SlI .u8 w' v l:=by
 obtain⟨N,cap,rfl,G,H,I⟩:=h;refine⟨N,cap,rfl,G,λi hi=> ?_,I⟩;obtain⟨b,O,rfl,d,M⟩:=H i hi;exact⟨b,O,rfl,ϗ d a.size,by rw[a.cells b _ d (J (λe=>by rw[e] at hi;simp at hi) b rfl)];exact M⟩
def qu.off (h:qu w R l e C) (m:jt D w w') (O: ¬D R) (N: ∀g,C g-> ¬D g):qu w' R l e C:=by
 obtain⟨⟨v,G,H,d⟩,I,J,M⟩:=h;exact⟨⟨v,m.blk G O,AU H (λx b y=>N b (d x b y)) m,d⟩,I,J,M⟩
def Ke (h:qu w R l e C) (o:Nat) (x:Int):w.cell? ⟨R,o,ϋ⟩≠ϊ (υ x):=by
 obtain⟨⟨v,d,⟨G,cap,rfl,_⟩,_⟩,_⟩:=h;rw[cell_of_row w R o _ _ _ d]
 match o with
 | 0=>simp
 | 1=>simp
 | n+2=>simp
def SlI.away (h:SlI .u8 w v l) (m:jt S w w') (N: ∀b,S b-> ∀o x,w.cell? ⟨b,o,ϋ⟩≠ϊ (υ x)):SlI .u8 w' v l:=by
 obtain⟨O,cap,H,I,J,M⟩:=h;refine⟨O,cap,H,I,λi hi=> ?_,M⟩;obtain⟨b,U,e,d,G⟩:=J i hi;exact⟨b,U,e,ϗ d m.size,by rw[m.cells b _ d (λs=>N b s _ _ G)];exact G⟩
def xh:Byt []:=by intro i;simp
def Byt.drop (h:Byt l) (n:Nat):Byt (l.drop n):=by
 intro i;have:=h (n+i);rw[ϑ] at this ⊢;rw[D1];exact this
def Byt.take (h:Byt l) (n:Nat):Byt (l.take n):=by
 intro i;have:=h i;rw[ϑ] at this ⊢;rw[B3];split
 ·exact this
 ·simp
def tkB (l:List Int) (n:Int):List Int:=if n<=l.length then l.take n.toNat else []
def tkL (l:List Int) (n:Int):List Int:=l.drop n.toNat
def tkE (l:List Int) (n e:Int):Int:=if (l.length:Int)<n/\e=0 then 3 else e
def Eh (a b:List Int):tkB (a++b) a.length=a:=by
 unfold tkB;rw[ϐ (by simp;omega)];simp
def Ef (a b:List Int):tkL (a++b) a.length=b:=by
 unfold tkL;simp
def Eg (a b:List Int) (e:Int):tkE (a++b) a.length e=e:=by
 unfold tkE;rw[ώ (by simp;omega)]
def zZ {a b:List Int} (d:Byt a) (G:Byt b):Byt (a++b):=by
 intro i;by_cases h:i<a.length
 ·have:=d i;rw[ϑ] at this ⊢;rw[ϻ h];exact this
 ·have:=G (i-a.length);rw[ϑ] at this ⊢;rw[Ϻ τ];exact this
def zn (h:qu w R l e C):
  Calls prog 57 #[γ R] w λG w'=>G= .returned (ι l.length)/\w'=w:=by
 obtain⟨⟨v,d,⟨I,cap,rfl,_⟩,_⟩,_⟩:=h;have H:=β0 d;clear d
 go_enter func57,ntmps57
 go_wp2;go_ret;exact⟨rfl,rfl⟩
def Lx (v:Value) (l:List Int) (w:World) (O:SlI .u8 w v l) (M:Byt l) (H:l.length<=1000000):
  Calls prog 51 #[v] w λe w'=> ∃R,e= .returned (γ R)/\w.heap.size<=R/\qu w' R l 0/\ql w w':=by
 go_enter func51,ntmps51
 go_wp2_with (go_at_call 50;refine(Od v l w O H).mono ?_;rintro e w2 ⟨ab,rfl,d,I⟩;have J:=κ d;have G:=κ I;obtain⟨aa,Y,U,rfl,N⟩:=qT d;clear d I N)
 go_ret;exact⟨_,rfl,G.o.size,⟨⟨_,qj _ _,(SlI.of_owns J.o τ).keep W4,λ_ _ _=>trivial⟩,H,M,λh=>ϩ rfl h⟩,G.o.al _⟩
def NV (v:Value) (l:List Int) (w:World) (O:SlI .u8 w v l) (M:Byt l) (I:l.length<=1000000):
  Calls prog 51 #[v] w λe w'=> ∃R,e= .returned (γ R)/\w.heap.size<=R/\qu w' R l 0 (λg=>w.heap.size<=g/\g<w'.heap.size)/\ql w w':=by
 go_enter func51,ntmps51
 go_wp2_with (go_at_call 50;refine(Od v l w O I).mono ?_;rintro e w2 ⟨ab,rfl,G,J⟩;have d:=κ G;have H:=κ J;obtain⟨aa,Y,U,rfl,N⟩:=qT G;clear G J N)
 go_ret;exact⟨_,rfl,H.o.size,⟨⟨_,qj _ _,(SlI.of_owns d.o τ).keep W4,λ_ g y=>⟨jG d.o y,ϗ (gB d.o y) W4.size⟩⟩,I,M,λh=>ϩ rfl h⟩,H.o.al _⟩
def gf (h:qu w R l e C) (x:Int) (d:x=0∨(¬x=0/\ ¬e=0)):
  Calls prog 55 #[γ R,ι x] w λH w'=>H= .returned (.tuple #[])/\w'=w:=by
 obtain⟨⟨v,G,I,J⟩,_⟩:=h;have c1:=β1 G;clear G I J;rcases d with d | ⟨d,he⟩
 ·subst d
  go_enter func55,ntmps55
  go_wp2;refine bodyPost_ret (v:= .tuple #[]) ?rr rfl ?_
  case rr=>simp[results,results55,go_sem]
  exact⟨rfl,rfl⟩
 ·have M:(x==0)=ύ:=by simpa using d
  have N:(e != 0)=ό:=by simpa using he
  go_enter func55,ntmps55
  go_wp2;refine bodyPost_ret (v:= .tuple #[]) ?rr rfl ?_
  case rr=>simp[results,results55,go_sem]
  exact⟨rfl,rfl⟩
def Jd (h:qu w R l 0 C) (x:Int) (I: ¬x=0):
  Calls prog 55 #[γ R,ι x] w λH w'=>H= .returned (.tuple #[])/\qu w' R [] x C/\jt (λb=>b=R) w w':=by
 obtain⟨⟨v,d,⟨U,cap,rfl,_⟩,_⟩,_⟩:=h;have J:=β0 d;have c1:=β1 d;have M:=yw d 0;have N:=yw d 1;have G:=κ d;have O:(x==0)=ύ:=by simpa using I
 clear d
 go_enter func55,ntmps55
 go_wp2;refine bodyPost_end (v:= .tuple #[]) ?rr rfl ?_
 case rr=>simp[results,results55,go_sem]
 exact⟨rfl,⟨⟨_,qB (qp (qp G.o 1 _) 0 _) rfl,SlI.nil _ _,λx=>ϩ rfl x⟩,η,xh,λ_=>rfl⟩,((jt.refl (λb=>b=R) w).set (p:=⟨R,1,ϋ⟩) rfl _).set (p:=⟨R,0,ϋ⟩) rfl _⟩
def Wg (n:Int) (G:n<=0) (h:qu w R l e C):
  Calls prog 110 #[γ R,ι n] w λd w'=>d= .returned (δ ϋ 0 0)/\w'=w:=by
 clear h
 go_enter func110,ntmps110
 go_wp2;go_ret;exact⟨rfl,rfl⟩
def Y9 (n:Int) (U:0<n) (N:(l.length:Int)<n) (h:qu w R l e C):
  Calls prog 110 #[γ R,ι n] w λJ w'=>J= .returned (δ ϋ 0 0)/\qu w' R [] (tkE l n e) C/\jt (λb=>b=R) w w':=by
 have d:=κ h;obtain⟨⟨v,G,⟨Y,cap,rfl,_⟩,_⟩,_⟩:=h;have O:=β0 G;clear G;by_cases he:e=0
 ·subst he
  go_enter func110,ntmps110
  go_wp2_with (go_at_call 55;refine(Jd d.o 3 ζ).mono ?_;rintro e w2 ⟨rfl,M,I⟩)
  go_ret;refine⟨rfl, ?_,I⟩;have:tkE l n 0=3:=by unfold tkE;rw[ϐ ⟨N,rfl⟩]
  rw[this];exact M
 ·go_enter func110,ntmps110
  go_wp2_with (go_at_call 55;refine(gf d.o 3 (ϔ ⟨ζ,he⟩)).mono ?_;rintro e w2 ⟨rfl,rfl⟩)
  go_ret;have H:=d.o;have:tkE l n e=e:=by unfold tkE;rw[ώ (λx=>he x.2)]
  rw[this];obtain rfl:=H.shut he;exact⟨rfl,H,jt.refl _ _⟩
def Bx {c m G k k':Nat} (h:(δ (if c=n then d else d.map (·.add n)) m k).ownBlock=ϊ g):(δ d G k').ownBlock=ϊ g:=by
 by_cases e:c=n
 ·rw[ϐ e] at h;cases d<;>exact h
 ·rw[ώ e] at h;cases d with
  | none=>exact h
  | some a=>
   simp only[C6,Value.ownBlock] at h ⊢;rw[<-h];unfold Addr.add;split<;>rfl
def KB (n:Nat) (ax:0<n) (ab:n<=l.length) (h:qu w R l e C):
  Calls prog 110 #[γ R,ι n] w λaj w'=> ∃v',aj= .returned v'/\SlI .u8 w' v' (l.take n)/\qu w' R (l.drop n) e C/\jt (λb=>b=R) w w':=by
 have ar:=κ h;have ae:=λo x=>Ke h o x
 have ai:=κ ae;obtain⟨⟨v,H,U,aa⟩,aw,al,Y⟩:=h;have ah:=κ aa;clear aa;have af:=κ H;have N:=κ U;obtain⟨M,cap,rfl,am,an,ao,ap,aq⟩:=U;have au:=β0 H;have av:=yw H 0;have aA: ¬(l.length:Int)<(n:Int):=by omega
 have ay:(n:Int)<=(cap:Int):=by omega
 have aB:(n:Int)<=(l.length:Int):=by omega
 have az:(0:Int)<=(n:Int):=by omega
 have ag:=κ Y;clear H am an ao ap aq Y ae;have ad: ∀G d,(G=if cap=n then M else M.map (·.add n))->d=cap-n-> ∃v',Ending.returned (δ M n n)= .returned v'/\SlI .u8 (w.setCell ⟨R,0,ϋ⟩ (δ G (l.length-n) d)) v' (l.take n)/\qu (w.setCell ⟨R,0,ϋ⟩ (δ G (l.length-n) d)) R (l.drop n) e C/\jt (λb=>b=R) w (w.setCell ⟨R,0,ϋ⟩ (δ G (l.length-n) d)):=by
  intro G d O ak;have I:jt (λb=>b=R) w (w.setCell ⟨R,0,ϋ⟩ (δ G (l.length-n) d)):=(jt.refl (λb=>b=R) w).set (p:=⟨R,0,ϋ⟩) rfl _;have ac: ∀b,b=R-> ∀o x,w.cell? ⟨b,o,ϋ⟩≠ϊ (υ x):=by rintro b rfl;exact ai.o
  subst ak;exact⟨_,rfl,((N.o.take3 n ab).away I ac),⟨⟨_,qB (qp af.o 0 _) rfl,(N.o.from_ n ab _ O).away I ac,λx g y=>ah.o (λz=>x (by rw[z];simp)) g (by subst O;exact Bx y)⟩,by simp;omega,al.drop n,λx=>by rw[ag.o x];simp⟩,I⟩
 have J:=κ ad;clear ad
 go_enter func110,ntmps110
 go_wp2
 all_goals (go_ret;first | exact J.o _ _ rfl rfl | exact J.o _ _ (by rw[ϐ τ]) τ | exact J.o _ _ (by rw[ώ τ]) rfl)
def kV (n:Int) (h:qu w R l e C):
  Calls prog 110 #[γ R,ι n] w λH w'=> ∃v',H= .returned v'/\SlI .u8 w' v' (tkB l n)/\qu w' R (tkL l n) (tkE l n e) C/\jt (λb=>b=R) w w':=by
 by_cases h0:n<=0
 ·refine(Wg n h0 h).mono ?_;rintro H w' ⟨rfl,rfl⟩;have N:n.toNat=0:=by omega
  have d:tkB l n=[]:=by unfold tkB;rw[N];split<;>simp
  have J:tkE l n e=e:=by unfold tkE;rw[ώ τ]
  have G:tkL l n=l:=by unfold tkL;rw[N];simp
  rw[d,J,G];exact⟨_,rfl,SlI.nil _ _,h,jt.refl _ _⟩
 ·by_cases h1:(l.length:Int)<n
  ·refine(Y9 n τ h1 h).mono ?_;rintro H w' ⟨rfl,M,I⟩;have d:tkB l n=[]:=by unfold tkB;rw[ώ τ]
   have G:tkL l n=[]:=by unfold tkL;exact G8 τ
   rw[d,G];exact⟨_,rfl,SlI.nil _ _,M,I⟩
  ·obtain⟨k,rfl⟩: ∃k:Nat,n=k:=⟨n.toNat,τ⟩;refine(KB k τ τ h).mono ?_;rintro H w' ⟨v',rfl,M,O,I⟩;have d:tkB l k=l.take k:=by unfold tkB;rw[ϐ τ];simp
   have G:tkL l k=l.drop k:=by unfold tkL;simp
   have J:tkE l k e=e:=by unfold tkE;rw[ώ τ]
   rw[d,J,G];exact⟨_,rfl,M,O,I⟩
def jL (h:Byt l) (n:Int):Byt (tkB l n):=by
 unfold tkB;split
 ·exact h.take _
 ·exact xh
def zh (l:List Int) (n:Int) (d:0<=n):((tkB l n).length:Int)<=n:=by
 unfold tkB;split
 ·rw[Ϡ];omega
 ·exact d
def zv (l:List Int) (k:Nat) (h:Byt l) (H:(l.length:Int)<=k) (G:k<=8):0<=num l/\num l<2 ^ (8* k):=by
 have d:=Yy l h;rw[uD l h τ];refine⟨d.1,J6 d.2 ?_⟩;have:2 ^ (8* l.length)<=2 ^ (8* k):=D2 ζ τ
 exact_mod_cast this
def Zl (h:qu w R l e C) (n:Nat) (ac:n<=1):
  Calls prog 109 #[.func (.func 110) #[γ R] #[],ι n] w λN w'=>N= .returned (υ (num (tkB l n)))/\qu w' R (tkL l n) (tkE l n e) C/\jt (λb=>b=R) w w':=by
 have H:=jL h.byt n;have d:=zv (tkB l n) n H (zh l n τ) τ;have I:(2:Int) ^ (8* n)<=2 ^ (8* 1):=by
  have:2 ^ (8* n)<=2 ^ (8* 1):=D2 ζ τ
  exact_mod_cast this
 have J:IntKind.u8.wrap (num (tkB l n))=num (tkB l n):=F1 d.1 (J6 d.2 I);have G:=κ J;clear J d I
 go_enter func109,ntmps109
 go_wp2_with first | (go_at_call 110;refine(kV n h).mono ?_;rintro aa w1 ⟨Y,rfl,U,O,M⟩) | (go_at_call 167;refine(gg _ Y _ U H).mono ?_;rintro ab w2 ⟨rfl,rfl⟩)
 go_ret;exact⟨by first | exact xV G.o | rfl | exact ϯ _ (by rw[G.o]),O,M⟩
def Jp (h:qu w R l e C) (n:Nat) (ac:n<=2):
  Calls prog 111 #[.func (.func 110) #[γ R] #[],ι n] w λN w'=>N= .returned (φ (num (tkB l n)))/\qu w' R (tkL l n) (tkE l n e) C/\jt (λb=>b=R) w w':=by
 have H:=jL h.byt n;have d:=zv (tkB l n) n H (zh l n τ) τ;have I:(2:Int) ^ (8* n)<=2 ^ (8* 2):=by
  have:2 ^ (8* n)<=2 ^ (8* 2):=D2 ζ τ
  exact_mod_cast this
 have J:IntKind.u16.wrap (num (tkB l n))=num (tkB l n):=F1 d.1 (J6 d.2 I);have G:=κ J;clear J d I
 go_enter func111,ntmps111
 go_wp2_with first | (go_at_call 110;refine(kV n h).mono ?_;rintro aa w1 ⟨Y,rfl,U,O,M⟩) | (go_at_call 167;refine(gg _ Y _ U H).mono ?_;rintro ab w2 ⟨rfl,rfl⟩)
 go_ret;exact⟨by first | exact xV G.o | rfl | exact ϯ _ (by rw[G.o]),O,M⟩
def ub (h:qu w R l e C) (n:Nat) (ac:n<=4):
  Calls prog 112 #[.func (.func 110) #[γ R] #[],ι n] w λN w'=>N= .returned (ω (num (tkB l n)))/\qu w' R (tkL l n) (tkE l n e) C/\jt (λb=>b=R) w w':=by
 have H:=jL h.byt n;have d:=zv (tkB l n) n H (zh l n τ) τ;have I:(2:Int) ^ (8* n)<=2 ^ (8* 4):=by
  have:2 ^ (8* n)<=2 ^ (8* 4):=D2 ζ τ
  exact_mod_cast this
 have J:IntKind.u32.wrap (num (tkB l n))=num (tkB l n):=F1 d.1 (J6 d.2 I);have G:=κ J;clear J d I
 go_enter func112,ntmps112
 go_wp2_with first | (go_at_call 110;refine(kV n h).mono ?_;rintro aa w1 ⟨Y,rfl,U,O,M⟩) | (go_at_call 167;refine(gg _ Y _ U H).mono ?_;rintro ab w2 ⟨rfl,rfl⟩)
 go_ret;exact⟨by first | exact xV G.o | rfl | exact ϯ _ (by rw[G.o]),O,M⟩
def jT (h:qu w R l e C):
  Calls prog 52 #[γ R] w λG w'=>G= .returned (υ (num (tkB l 1)))/\qu w' R (tkL l 1) (tkE l 1 e) C/\jt (λb=>b=R) w w':=by
 go_enter func52,ntmps52
 go_wp2_with (go_at_call 109;refine(Zl h 1 ζ).mono ?_;rintro I w1 ⟨rfl,H,d⟩)
 go_ret;exact⟨rfl,H,d⟩
def xn (h:qu w R l e C):
  Calls prog 53 #[γ R] w λG w'=>G= .returned (φ (num (tkB l 2)))/\qu w' R (tkL l 2) (tkE l 2 e) C/\jt (λb=>b=R) w w':=by
 go_enter func53,ntmps53
 go_wp2_with (go_at_call 111;refine(Jp h 2 ζ).mono ?_;rintro I w1 ⟨rfl,H,d⟩)
 go_ret;exact⟨rfl,H,d⟩
def Je (h:qu w R l e C):
  Calls prog 328 #[γ R] w λG w'=>G= .returned (ω (num (tkB l 3)))/\qu w' R (tkL l 3) (tkE l 3 e) C/\jt (λb=>b=R) w w':=by
 go_enter func328,ntmps328
 go_wp2_with (go_at_call 112;refine(ub h 3 ζ).mono ?_;rintro I w1 ⟨rfl,H,d⟩)
 go_ret;exact⟨rfl,H,d⟩
def jD (h:qu w R l e C):
  Calls prog 54 #[γ R] w λG w'=>G= .returned (ω (num (tkB l 4)))/\qu w' R (tkL l 4) (tkE l 4 e) C/\jt (λb=>b=R) w w':=by
 go_enter func54,ntmps54
 go_wp2_with (go_at_call 112;refine(ub h 4 ζ).mono ?_;rintro I w1 ⟨rfl,H,d⟩)
 go_ret;exact⟨rfl,H,d⟩
def Vm (l:List Int) (n:Int):(tkB l n).length<=l.length:=by
 unfold tkB;split
 ·rw[Ϡ];omega
 ·simp
def kq {d e size:Nat} (h:w.ownsRow base e size v n xs) (I:d<=base):w.ownsRow d e size v n xs:=by
 obtain⟨G,H⟩:=h;refine⟨G, ?_⟩;rcases H with h | ⟨b,cap,cur,e1,hb',rest⟩
 ·exact ϒ h
 ·exact ϔ ⟨b,cap,cur,e1,Ϙ I hb',rest⟩
def QI (n:Int) (h:qu w R l e C):
  Calls prog 56 #[γ R,ι n] w λH w'=> ∃v',H= .returned v'/\w'.ownsRow w.heap.size 5 1 v' (tkB l n).length ((tkB l n).map (Value.int .u8))/\qu w' R (tkL l n) (tkE l n e) C/\jt (λb=>b=R) w w':=by
 have aa:=Vm l n;have Y:=h.small
 go_enter func56,ntmps56
 go_wp2_with first | (go_at_call 110;refine(kV n h).mono ?_;rintro O w1 ⟨N,rfl,M,I,d⟩) | (go_at_call 50;refine(Od N _ _ M τ).mono ?_;rintro U w2 ⟨ab,rfl,J,G⟩)
 go_ret;exact⟨_,rfl,kq J d.size,I.more G,d.more G⟩
def yT (h:qu w R l e C):
  Calls prog 59 #[γ R] w λG w'=>G= .returned (ι (if ¬e=0 then e else if 0<l.length then 4 else 0))/\w'=w:=by
 obtain⟨⟨v,d,⟨N,cap,rfl,_⟩,_⟩,_,_,J⟩:=h;have I:=β0 d;have c1:=β1 d;clear d;by_cases he:e=0
 ·subst he;by_cases hl:0<l.length
  ·have H:(0:Int)<(l.length:Int):=by omega
   go_enter func59,ntmps59
   go_wp2;go_ret;simp[hl]
  ·have H: ¬(0:Int)<(l.length:Int):=by omega
   go_enter func59,ntmps59
   go_wp2;go_ret;simp[hl]
 ·have M:(e != 0)=ό:=by simpa using he
  go_enter func59,ntmps59
  go_wp2;go_ret;simp[he]
abbrev U16 (n:Int):Prop:=0<=n/\n<=65535
def qK (n s:Int) (d:0<=s/\s<=8):(qy n s).length=s.toNat:=by
 rw[gQ n s d,zP]
def Xi (x:Int) (k:Nat) (H:0<=x) (G:k<=8) (h:x<2 ^ (8* k)):num (qy x k)=x:=by
 have d:qy x k=bys x k:=by rw[gQ _ _ τ];simp
 rw[d,uD _ (JF _ _) (by rw[zP];exact G),VA];exact F1 H h
def uM {n:Int} (d:0<=n) (h:n<=l.length):l=tkB l n++tkL l n/\((tkB l n).length:Int)=n:=by
 unfold tkB tkL;rw[ϐ h];refine⟨(A9 _ _).symm, ?_⟩;rw[Ϡ];omega
def gR (h:Byt l) (k:Nat) (H:(l.length:Int)=k) (G:k<=8):qy (num l) k=l:=by
 have d:l.length=k:=by omega
 rw[gQ _ _ τ];simp only[ο];rw[<-d];exact Fv l h τ
abbrev RdS:=List Int×Int
variable {s:RdS}
def wrS (s:RdS) (x:Int):RdS:=if x=0∨ ¬s.2=0 then s else ([],x)
def tkS (s:RdS) (n:Int):RdS:=(tkL s.1 n,tkE s.1 n s.2)
def zo (h:qu w R s.1 s.2 C) (x:Int):
  Calls prog 55 #[γ R,ι x] w λd w'=>d= .returned (.tuple #[])/\qu w' R (wrS s x).1 (wrS s x).2 C/\jt (λb=>b=R) w w':=by
 obtain⟨l,e⟩:=s;simp only at h;by_cases hx:x=0
 ·refine(gf h x (ϒ hx)).mono ?_;rintro d w' ⟨rfl,rfl⟩;have:wrS (l,e) x=(l,e):=by unfold wrS;rw[ϐ (ϒ hx)]
  rw[this];exact⟨rfl,h,jt.refl _ _⟩
 ·by_cases he:e=0
  ·subst he;refine(Jd h x hx).mono ?_;rintro d w' ⟨rfl,H,G⟩;have:wrS (l,0) x=([],x):=by unfold wrS;rw[ώ (by simp[hx])]
   rw[this];exact⟨rfl,H,G⟩
  ·refine(gf h x (ϔ ⟨hx,he⟩)).mono ?_;rintro d w' ⟨rfl,rfl⟩;have:wrS (l,e) x=(l,e):=by unfold wrS;rw[ϐ (ϔ he)]
   rw[this];exact⟨rfl,h,jt.refl _ _⟩
abbrev U32 (n:Int):Prop:=0<=n/\n<=4294967295
def adv (s:RdS) (n:Nat):RdS:=if s.2=0 then (if n<=s.1.length then (s.1.drop n,0) else ([],3)) else ([],s.2)
def Jm (s:RdS):Prop:= ¬s.2=0->s.1=[]
def gz (n:Nat) (h:Jm s):tkS s n=adv s n:=by
 obtain⟨l,e⟩:=s;unfold tkS adv tkL tkE;simp only[ο];by_cases he:e=0
 ·subst he;rw[ϐ rfl];by_cases hn:n<=l.length
  ·rw[ϐ hn,ώ τ]
  ·rw[ώ hn,ϐ τ,G8 τ]
 ·have d:l=[]:=h he;subst d;rw[ώ he,ώ (λx=>he x.2)];simp
def vj (s:RdS) (n:Nat):Jm (adv s n):=by
 unfold Jm adv;split
 ·split
  ·intro h;exact ϩ rfl h
  ·intro _;rfl
 ·intro _;rfl
def gG (s:RdS) (a b:Nat):adv (adv s a) b=adv s (a+b):=by
 obtain⟨l,e⟩:=s;unfold adv;simp only;by_cases he:e=0
 ·subst he;simp only[A0];by_cases ha:a<=l.length
  ·rw[ϐ ha];simp only[A0,ϣ,T1];by_cases hb:a+b<=l.length
   ·rw[ϐ τ,ϐ hb]
   ·rw[ώ τ,ώ hb]
  ·rw[ώ ha];simp;omega
 ·rw[ώ he,ώ he];simp[he]
def xF (a b:Nat):tkS (adv s a) b=adv s (a+b):=by rw[gz b (vj s a),gG]
def Cu (h:Jm s):adv s 0=s:=by
 obtain⟨l,e⟩:=s;unfold adv;by_cases he:e=0
 ·subst he;simp
 ·have d:l=[]:=h he;subst d;simp[he]
def QH (x:Int):qy (x%16777216) 3=qy x 3:=by
 have h: ∀j,j<3->by8 (x%16777216) j=by8 x j:=by
  intro j d;unfold by8
  match j,d with
  | 0,_=>simp
  | 1,_=>simp;omega
  | 2,_=>simp;omega
 show [by8 (x%16777216) 2,by8 (x%16777216) 1,by8 (x%16777216) 0]=[by8 x 2,by8 x 1,by8 x 0];rw[h 0 ζ,h 1 ζ,h 2 ζ]
def JY (x:Int) (k:Nat) (G:k<=8) (r:List Int):tkS (qy x k++r,0) k=(r,0)/\tkB (qy x k++r) k=qy x k:=by
 have d:((qy x k).length:Int)=k:=by rw[qK _ _ τ];simp
 have a:=Eh (qy x k) r;have b:=Ef (qy x k) r;have c:=Eg (qy x k) r 0;rw[d] at a b c;unfold tkS;simp only[a,b,c,and_self]
def wU (k:Nat) (G:k<=8) (d:Byt L) (h:k<=L.length): ∃x r,L=qy x k++r/\0<=x/\x<2 ^ (8* k)/\Byt r:=by
 obtain⟨j,q⟩:=uM (l:=L) (n:=(k:Int)) τ τ;have H:=zv (tkB L k) k (jL d k) τ G;refine⟨num (tkB L k),tkL L k, ?_,H.1,H.2,d.drop _⟩;rw[gR (jL d k) k q G];exact j
def xv (J:Byt L) (h:4<=L.length): ∃x r,L=qy x 4++r/\U32 x/\Byt r:=by
 obtain⟨x,r,G,H,d,I⟩:=wU 4 ζ J h;have d:x<4294967296:=d;exact⟨x,r,G,⟨H,τ⟩,I⟩
structure Pk where
 mr:Bool
 ty:Int
 sq:Int
 st:Int
 sc:Int
 ss:List Int
 has:Bool
 pr:Int
 ex:List Int
 pl:List Int
variable {p:Pk}
def pk0:Pk:=⟨ύ,0,0,0,0,[],ύ,0,[],[]⟩
structure uf (p:Pk):Prop where
 ty:0<=p.ty/\p.ty<=255
 sq:U16 p.sq
 st:U32 p.st
 sc:U32 p.sc
 ss: ∀i,U32 (p.ss.getD i 0)
 pr:U16 p.pr
 ex:Byt p.ex
 pl:Byt p.pl
def ww (p:Pk):Int:=12+4* (p.ss.length:Int)+(p.pl.length:Int)+if p.has then 4+(p.ex.length:Int) else 0
def jJ (p:Pk):Bool:=decide (p.ty<=127)&&decide ((p.ss.length:Int)<=15)&&(p.has||(decide (p.pr=0)&&decide (p.ex=[])))&&decide ((p.ex.length:Int)%4=0)&&decide (ww p<=200)
def yq (p:Pk):jJ p=ό↔p.ty<=127/\(p.ss.length:Int)<=15/\(p.has=ύ->p.pr=0/\p.ex=[])/\(p.ex.length:Int)%4=0/\ww p<=200:=by
 unfold jJ;cases h:p.has<;>simp[and_assoc]
def CT (p:Pk):Int:=128+(p.ss.length:Int)+if p.has then 16 else 0
def CN (p:Pk):Int:=p.ty+if p.mr then 128 else 0
def ssB (l:List Int):List Int:=l.flatMap λx=>qy x 4
def AP (l:List Int) (x:Int):ssB (l++[x])=ssB l++qy x 4:=by simp[ssB]
def WE (l:List Int):(ssB l).length=4* l.length:=by
 induction l with
 | nil=>rfl
 | cons x l ih=>
  show (qy x 4++ssB l).length=_;rw[Ϗ,ih,qK _ _ ζ,ϙ];show 4+4* l.length=_;omega
def CV (p:Pk):List Int:=qy (CT p) 1++qy (CN p) 1++qy p.sq 2++qy p.st 4++qy p.sc 4
def Hz (p:Pk):List Int:=qy p.pr 2++qy ((p.ex.length:Int)/4) 2++p.ex
def DB (p:Pk):List Int:=CV p++ssB p.ss++if p.has then Hz p else []
def pkB (p:Pk):List Int:=DB p++p.pl
def j9:Nat->RdS->List Int×RdS
 | 0,s=>([],s)
 | n+1,s=>((j9 n s).1++[num (tkB (j9 n s).2.1 4)],tkS (j9 n s).2 4)
def xL (b:List Int):List Int×Bool:=
 if b=[] then ([],ύ) else if b.getD (b.length-1) 0=0∨(b.length:Int)<b.getD (b.length-1) 0 then ([],ύ) else (b.take (b.length-(b.getD (b.length-1) 0).toNat),ό)
def vB (f:Int) (s:RdS):List Int×Int:=
 if ¬s.2=0 then ([],s.2) else if f/32%2=1 then (if (xL s.1).2 then ((xL s.1).1,0) else ([],2)) else (s.1,0)
def Qj (s:RdS):(Int×List Int)×RdS:=((num (tkB s.1 2),tkB (tkS (tkS s 2) 2).1 (4* num (tkB (tkS s 2).1 2))),tkS (tkS (tkS s 2) 2) (4* num (tkB (tkS s 2).1 2)))
def yj (f:Int) (s:RdS):(List Int×Int×List Int)×RdS:=
 if f/16%2=1 then (((j9 (f%16).toNat s).1,(Qj (j9 (f%16).toNat s).2).1.1,(Qj (j9 (f%16).toNat s).2).1.2),(Qj (j9 (f%16).toNat s).2).2)
 else (((j9 (f%16).toNat s).1,0,[]),(j9 (f%16).toNat s).2)
def s1H (b:List Int):RdS:=tkS (b,0) 1
def s2H (b:List Int):RdS:=tkS (s1H b) 1
def s3H (b:List Int):RdS:=tkS (s2H b) 2
def s4H (b:List Int):RdS:=tkS (s3H b) 4
def s5H (b:List Int):RdS:=tkS (s4H b) 4
def yy (f:Int) (s:RdS):RdS:=if f<128∨191<f then wrS s 2 else s
def fH (b:List Int):Int:=num (tkB b 1)
def gH (b:List Int):Int:=num (tkB (s1H b).1 1)
def mkH (b:List Int) (x:List Int×Int×List Int) (l:List Int):Pk:=
 ⟨decide (128<=gH b),gH b%128,num (tkB (s2H b).1 2),num (tkB (s3H b).1 4),num (tkB (s4H b).1 4),x.1,decide (fH b/16%2=1),x.2.1,x.2.2,l⟩
def JJ (b:List Int) (x:(List Int×Int×List Int)×RdS):Pk×Int:=
 if (vB (fH b) x.2).2=0 then (mkH b x.1 (vB (fH b) x.2).1,0) else (pk0,(vB (fH b) x.2).2)
def jl (b:List Int):Pk×Int:=
 if (200:Int)<b.length then (pk0,4) else JJ b (yj (fH b) (yy (fH b) (s5H b)))
def WI (b:List Int):s5H b=adv (b,0) 12:=by
 have h:Jm (b,0):=λh=>ϩ rfl h
 show tkS (tkS (tkS (tkS (tkS (b,0) (1:Nat)) (1:Nat)) (2:Nat)) (4:Nat)) (4:Nat)=_;rw[gz 1 h,xF,xF,xF,xF]
def gN: ∀(n:Nat) (s:RdS),(j9 n s).1.length=n
 | 0,_=>rfl
 | n+1,s=>by
  show ((j9 n s).1++[_]).length=_;rw[Ϗ,gN n];rfl
def WB (e n:Int) (h: ¬e=0):tkS ([],e) n=([],e):=by
 unfold tkS;rw[tkL_nil',tkE_bad h]
where
 tkL_nil':tkL ([]:List Int) n=[]:=by unfold tkL;simp
 tkE_bad (he: ¬e=0):tkE [] n e=e:=by unfold tkE;rw[ώ (λx=>he x.2)]
def Xd (e:Int) (h: ¬e=0): ∀n,(j9 n ([],e)).2=([],e)
 | 0=>rfl
 | n+1=>by
  show tkS (j9 n ([],e)).2 4=_;rw[Xd e h n,WB e 4 h]
def GH (f e:Int) (h: ¬e=0):(yj f ([],e)).2=([],e):=by
 unfold yj Qj;split
 ·simp only[Xd e h,WB e _ h]
 ·simp only[Xd e h]
def VS (b:List Int) (f e:Int) (h: ¬e=0):JJ b (yj f ([],e))=(pk0,e):=by
 have d:vB (fH b) (yj f ([],e)).2=([],e):=by
  rw[GH f e h];unfold vB;rw[ϐ h]
 unfold JJ;rw[d];simp only;rw[ώ h]
def Ry (b:List Int):Pk×Int:=
 if (200:Int)<b.length then (pk0,4) else if (b.length:Int)<12 then (pk0,3) else if fH b<128∨191<fH b then (pk0,2) else JJ b (yj (fH b) (b.drop 12,0))
def GP (b:List Int):Ry b=jl b:=by
 unfold Ry jl;by_cases h1:(200:Int)<b.length
 ·rw[ϐ h1,ϐ h1]
 rw[ώ h1,ώ h1];have d:s5H b=if 12<=b.length then (b.drop 12,0) else ([],3):=by
  rw[WI];unfold adv;simp
 by_cases h2:(b.length:Int)<12
 ·rw[ϐ h2];rw[ώ τ] at d;have:yy (fH b) ([],3)=([],3):=by unfold yy wrS;simp
  rw[d,this,VS b _ 3 ζ]
 rw[ώ h2];rw[ϐ τ] at d;rw[d];by_cases h3:fH b<128∨191<fH b
 ·rw[ϐ h3];have:yy (fH b) (b.drop 12,0)=([],2):=by unfold yy wrS;rw[ϐ h3];simp
  rw[this,VS b _ 2 ζ]
 ·rw[ώ h3];have:yy (fH b) (b.drop 12,0)=(b.drop 12,0):=by unfold yy;rw[ώ h3]
  rw[this]
def Sv: ∀(l r:List Int),(∀i,U32 (l.getD i 0))->j9 l.length (ssB l++r,0)=(l,(r,0)):=by
 intro l
 induction l using gM
 ·intro r _;rfl
 ·rename_i l x M;intro r h;have H:U32 x:=by
   have:=h l.length
   simpa using this
  have J: ∀i,U32 (l.getD i 0):=λi=>by
   by_cases e:i<l.length
   ·have:=h i;rw[ϑ,ϻ e] at this;rw[ϑ];exact this
   ·rw[ϑ,F3 τ];exact⟨ζ,ζ⟩
  have I:(l++[x]).length=l.length+1:=by simp
  rw[I,AP,ϧ];unfold j9;rw[M (qy x 4++r) J];obtain⟨d,G⟩:=JY x 4 ζ r;have d:tkS (qy x 4++r,0) 4=(r,0):=d;have G:tkB (qy x 4++r) 4=qy x 4:=G;simp only[d,G];rw[show num (qy x 4)=x from Xi x 4 H.1 ζ (by have:=H.2;show x<4294967296;omega)]
def Cl (p:Pk):(CV p).length=12:=by
 unfold CV;simp only[Ϗ,qK _ 1 ζ,qK _ 2 ζ,qK _ 4 ζ]
 decide
def Bp (p:Pk):((DB p).length:Int)=12+4* (p.ss.length:Int)+if p.has then 4+(p.ex.length:Int) else 0:=by
 unfold DB;rw[Ϗ,Ϗ,Cl,WE];cases p.has
 ·simp
 ·simp only[A0,Hz,Ϗ,qK _ 2 ζ];show ((12+4* p.ss.length+(2+2+p.ex.length):Nat):Int)=_;omega
def Ey (p:Pk):((pkB p).length:Int)=ww p:=by
 unfold pkB ww;rw[Ϗ];have:=Bp p;omega
def SP (aa:jJ p=ό) (d:uf p) (r:List Int):
  fH (CV p++r)=CT p/\gH (CV p++r)=CN p/\num (tkB (s2H (CV p++r)).1 2)=p.sq/\num (tkB (s3H (CV p++r)).1 4)=p.st/\num (tkB (s4H (CV p++r)).1 4)=p.sc/\s5H (CV p++r)=(r,0):=by
 obtain⟨ab,ac,ad,ae,af⟩:=(yq p).1 aa;have e:CV p++r=qy (CT p) 1++(qy (CN p) 1++(qy p.sq 2++(qy p.st 4++(qy p.sc 4++r)))):=by unfold CV;simp only[ϧ]
 obtain⟨I,M⟩:=JY (CT p) 1 ζ (qy (CN p) 1++(qy p.sq 2++(qy p.st 4++(qy p.sc 4++r))));obtain⟨J,N⟩:=JY (CN p) 1 ζ (qy p.sq 2++(qy p.st 4++(qy p.sc 4++r)));obtain⟨a3,O⟩:=JY p.sq 2 ζ (qy p.st 4++(qy p.sc 4++r));obtain⟨a4,U⟩:=JY p.st 4 ζ (qy p.sc 4++r);obtain⟨a5,Y⟩:=JY p.sc 4 ζ r;have t1:s1H (CV p++r)=(qy (CN p) 1++(qy p.sq 2++(qy p.st 4++(qy p.sc 4++r))),0):=by unfold s1H;rw[e];exact I
 have t2:s2H (CV p++r)=(qy p.sq 2++(qy p.st 4++(qy p.sc 4++r)),0):=by unfold s2H;rw[t1];exact J
 have t3:s3H (CV p++r)=(qy p.st 4++(qy p.sc 4++r),0):=by unfold s3H;rw[t2];exact a3
 have t4:s4H (CV p++r)=(qy p.sc 4++r,0):=by unfold s4H;rw[t3];exact a4
 have t5:s5H (CV p++r)=(r,0):=by unfold s5H;rw[t4];exact a5
 have G:0<=CT p/\CT p<256:=by unfold CT;split<;>omega
 have H:0<=CN p/\CN p<256:=by have:=d.ty;unfold CN;split<;>omega
 refine⟨?_, ?_, ?_, ?_, ?_,t5⟩
 ·unfold fH;rw[e];exact(ϯ num M).trans (Xi _ 1 G.1 ζ G.2)
 ·unfold gH;rw[t1];exact(ϯ num N).trans (Xi _ 1 H.1 ζ H.2)
 ·rw[t2];exact(ϯ num O).trans (Xi _ 2 d.sq.1 ζ (by have:=d.sq.2;show _<65536;omega))
 ·rw[t3];exact(ϯ num U).trans (Xi _ 4 d.st.1 ζ (by have:=d.st.2;show _<4294967296;omega))
 ·rw[t4];exact(ϯ num Y).trans (Xi _ 4 d.sc.1 ζ (by have:=d.sc.2;show _<4294967296;omega))
def Sd (d:jJ p=ό): ¬(CT p<128∨191<CT p)/\(CT p%16).toNat=p.ss.length/\(CT p/16%2=1↔p.has=ό)/\ ¬CT p/32%2=1:=by
 obtain⟨G,H,I,J,M⟩:=(yq p).1 d;unfold CT;cases p.has<;>simp<;>omega
def SQ (Y:jJ p=ό) (M:uf p) (r:List Int):Qj (Hz p++r,0)=((p.pr,p.ex),(r,0)):=by
 obtain⟨ab,ac,U,ad,J⟩:=(yq p).1 Y;have e:Hz p++r=qy p.pr 2++(qy ((p.ex.length:Int)/4) 2++(p.ex++r)):=by unfold Hz;simp only[ϧ]
 obtain⟨d,H⟩:=JY p.pr 2 ζ (qy ((p.ex.length:Int)/4) 2++(p.ex++r));obtain⟨G,I⟩:=JY ((p.ex.length:Int)/4) 2 ζ (p.ex++r);have d:tkS (qy p.pr 2++(qy ((p.ex.length:Int)/4) 2++(p.ex++r)),0) 2=(qy ((p.ex.length:Int)/4) 2++(p.ex++r),0):=d;have H:tkB (qy p.pr 2++(qy ((p.ex.length:Int)/4) 2++(p.ex++r))) 2=qy p.pr 2:=H;have G:tkS (qy ((p.ex.length:Int)/4) 2++(p.ex++r),0) 2=(p.ex++r,0):=G;have I:tkB (qy ((p.ex.length:Int)/4) 2++(p.ex++r)) 2=qy ((p.ex.length:Int)/4) 2:=I;have ae:(p.ex.length:Int)<=200:=by
  unfold ww at J;cases hh:p.has with
  | false=>have:=(U hh).2;rw[this];simp
  | true=>rw[hh] at J;simp at J;omega
 have n2:num (qy ((p.ex.length:Int)/4) 2)=(p.ex.length:Int)/4:=Xi _ 2 τ ζ (by show _<65536;omega);have aa:num (qy p.pr 2)=p.pr:=Xi _ 2 M.pr.1 ζ (by have:=M.pr.2;show _<65536;omega);have O:4* ((p.ex.length:Int)/4)=(p.ex.length:Int):=by omega
 have a3:=Eh p.ex r;have N:=Ef p.ex r;have c3:=Eg p.ex r 0;unfold Qj;rw[e];simp only[d,H,G,I,aa,n2,O];unfold tkS;simp only[a3,N,c3]
def Su (H:jJ p=ό) (G:uf p) (l:List Int) (al:((DB p).length+l.length:Int)<=200):jl (DB p++l)=({p with pl:=l},0):=by
 obtain⟨ah,ai,ad,aj,ak⟩:=(yq p).1 H;obtain⟨ag,o2,M,ae⟩:=Sd H;have e:DB p++l=CV p++(ssB p.ss++((if p.has then Hz p else [])++l)):=by unfold DB;simp only[ϧ]
 obtain⟨d,N,O,U,Y,ac⟩:=SP H G (ssB p.ss++((if p.has then Hz p else [])++l));rw[<-e] at d N O U Y ac;unfold jl;rw[ώ (by rw[Ϗ];omega),ac,d];have af:yy (CT p) (ssB p.ss++((if p.has then Hz p else [])++l),0)=(ssB p.ss++((if p.has then Hz p else [])++l),0):=by unfold yy;rw[ώ ag]
 rw[af];have I:=Sv p.ss ((if p.has then Hz p else [])++l) G.ss;have J:decide (128<=CN p)=p.mr/\CN p%128=p.ty:=by
  have:=G.ty;unfold CN;cases p.mr<;>simp<;>omega
 cases hh:p.has with
 | true=>
  rw[hh] at I;have ab:yj (CT p) (ssB p.ss++((if ό=ό then Hz p else [])++l),0)=((p.ss,p.pr,p.ex),(l,0)):=by
   unfold yj;rw[ϐ (M.2 hh),o2,I];simp only[A0,SQ H G l]
  rw[ab];have aa:vB (fH (DB p++l)) (l,0)=(l,0):=by
   unfold vB;rw[d,ώ η,ώ ae]
  unfold JJ;simp only[aa,A0];unfold mkH;rw[d,N,O,U,Y,J.1,J.2,ϭ (M.2 hh),<-hh]
 | false=>
  rw[hh] at I;have ab:yj (CT p) (ssB p.ss++((if ύ=ό then Hz p else [])++l),0)=((p.ss,p.pr,p.ex),(l,0)):=by
   unfold yj;rw[ώ (λg=>by have:=M.1 g;rw[hh] at this;cases this),o2,I,(ad hh).1,(ad hh).2];rfl
  rw[ab];have aa:vB (fH (DB p++l)) (l,0)=(l,0):=by
   unfold vB;rw[d,ώ η,ώ ae]
  unfold JJ;simp only[aa,A0];unfold mkH;rw[d,N,O,U,Y,J.1,J.2,ϫ (λg=>by have:=M.1 g;rw[hh] at this;cases this),<-hh]
def Γh (x:Pk) (a:Option Addr) (b:Nat) (c:Option Addr) (d:Nat) (e:Option Addr) (f:Nat):Mm:=.o
instance (x:Pk) (a:Option Addr) (b:Nat) (c:Option Addr) (d:Nat) (e:Option Addr) (f:Nat):CoeDep Mm (Γh x a b c d e f) (List Value):=⟨[μ x.mr,υ x.ty,φ x.sq,ω x.st,ω x.sc,δ a x.ss.length b,μ x.has,φ x.pr,δ c x.ex.length d,δ e x.pl.length f]⟩
instance (x:Pk) (a:Option Addr) (b:Nat) (c:Option Addr) (d:Nat) (e:Option Addr) (f:Nat):CoeDep Mm (Γh x a b c d e f) (Array Value):=⟨((Γh x a b c d e f):List Value).toArray⟩
instance (x:Pk) (a:Option Addr) (b:Nat) (c:Option Addr) (d:Nat) (e:Option Addr) (f:Nat):CoeDep Mm (Γh x a b c d e f) Value:=⟨θ (Γh x a b c d e f)⟩
def Γi (k:Int) (l:Int) (n:Int) (x:Pk) (a:Option Addr) (b:Nat) (c:Option Addr) (d:Nat) (e:Option Addr) (f:Nat):Mm:=.o
instance (k:Int) (l:Int) (n:Int) (x:Pk) (a:Option Addr) (b:Nat) (c:Option Addr) (d:Nat) (e:Option Addr) (f:Nat):CoeDep Mm (Γi k l n x a b c d e f) (List Value):=⟨[ι k,ι l,ι n,μ x.mr,υ x.ty,φ x.sq,ω x.st,ω x.sc,δ a x.ss.length b,μ x.has,φ x.pr,δ c x.ex.length d,δ e x.pl.length f]⟩
instance (k:Int) (l:Int) (n:Int) (x:Pk) (a:Option Addr) (b:Nat) (c:Option Addr) (d:Nat) (e:Option Addr) (f:Nat):CoeDep Mm (Γi k l n x a b c d e f) (Array Value):=⟨((Γi k l n x a b c d e f):List Value).toArray⟩
instance (k:Int) (l:Int) (n:Int) (x:Pk) (a:Option Addr) (b:Nat) (c:Option Addr) (d:Nat) (e:Option Addr) (f:Nat):CoeDep Mm (Γi k l n x a b c d e f) Value:=⟨θ (Γi k l n x a b c d e f)⟩
def Γq (x:Pk) (a:Value) (b:Value) (c:Value):Mm:=.o
instance (x:Pk) (a:Value) (b:Value) (c:Value):CoeDep Mm (Γq x a b c) (List Value):=⟨[μ x.mr,υ x.ty,φ x.sq,ω x.st,ω x.sc,a,μ x.has,φ x.pr,b,c]⟩
instance (x:Pk) (a:Value) (b:Value) (c:Value):CoeDep Mm (Γq x a b c) (Array Value):=⟨((Γq x a b c):List Value).toArray⟩
instance (x:Pk) (a:Value) (b:Value) (c:Value):CoeDep Mm (Γq x a b c) Value:=⟨θ (Γq x a b c)⟩
def Γr (k:Int) (l:Int) (n:Int) (x:Pk) (a:Value) (b:Value) (c:Value):Mm:=.o
instance (k:Int) (l:Int) (n:Int) (x:Pk) (a:Value) (b:Value) (c:Value):CoeDep Mm (Γr k l n x a b c) (List Value):=⟨[ι k,ι l,ι n,μ x.mr,υ x.ty,φ x.sq,ω x.st,ω x.sc,a,μ x.has,φ x.pr,b,c]⟩
instance (k:Int) (l:Int) (n:Int) (x:Pk) (a:Value) (b:Value) (c:Value):CoeDep Mm (Γr k l n x a b c) (Array Value):=⟨((Γr k l n x a b c):List Value).toArray⟩
instance (k:Int) (l:Int) (n:Int) (x:Pk) (a:Value) (b:Value) (c:Value):CoeDep Mm (Γr k l n x a b c) Value:=⟨θ (Γr k l n x a b c)⟩
def XV {P:Program} {o:Oper} {C:World->Prop} (s x:Operand) (t:TypeId)
  (ak:o.op= .call {callee:= .builtin .append,args:= #[s,x],argTypes:= #[t,t]})
  (base:Nat) (e:TypeId) (i:TypeInfo) (z:Value) (bytes:Nat) (ap:P.underlying t=ϊ (.slice e)) (hi:P.info? e=ϊ i) (au:i.zero=ϊ z)
  (ao:i.size=1) (ae:i.bytes=bytes) (av:z.cells.size=1)
  (v:Value) (k:IntKind) (l:List Int) (an:a.eval s=v) (al:w.ownsRow base e 1 v l.length (l.map (Value.int k)))
  (G:Addr) (cap:Nat) (d:List Int) (ar:a.eval x= δ (ϊ G) d.length cap) (ah:SlI k w (δ (ϊ G) d.length cap) d)
  (af:(l.length+d.length)* bytes<=140737488355328) (ax:1<=bytes) (ad:base<=w.heap.size)
  (h: ∀v' w',w'.ownsRow base e 1 v' (l++d).length ((l++d).map (Value.int k))->w.grownBy w' v.ownBlock->(v'.ownBlock=v.ownBlock∨v'.ownBlock=ϊ w.heap.size)->C w'/\K (a.put o.dst v') w'):jn P C o a w K:=by
 have ac:l.length+d.length<=maxLen:=by
  have:=J0 (l.length+d.length) (show 0<bytes by omega);unfold maxLen;omega
 obtain⟨aD,aw,N,ay,ai,az,aA,aB⟩:=ah;cases N
 obtain⟨v',w',am,Y,aa,_,ab⟩:=run_append_own_at (P:=P) w base t o.type e i z 1 bytes ap hi au ao ae av ζ v l.length (l.map (Value.int k)) al G d.length cap (d.map (Value.int k)) η (by
  intro j u I;rw[G4] at I;obtain⟨y,J,rfl⟩:=M4.1 I;obtain⟨aj,aC⟩:=Ϛ.1 J;obtain⟨b,M,H,_,ag⟩:=ai j aj;simp only[M5] at H;subst H;have O:(⟨b,M,ϋ⟩:Addr).add j=⟨b,M+j,ϋ⟩:=by
   unfold Addr.add;split
   ·rename_i U;subst U;rfl
   ·rfl
  rw[O,ag,ϑ,J];rfl) (by
  intro u aq;obtain⟨y,_,rfl⟩:=B6.1 aq
  rfl) ac af ad
 unfold jn execOp;simp only[ak,resolve,invoke,builtin,Sem.run_bind,Sem.run_pure,Result.andThen_ok,J3,Ϭ,D5,an,ar,am];exact h v' w' (by simpa using Y) aa ab
def XU {P:Program} {o:Oper} {C:World->Prop} (s x:Operand) (t:TypeId)
  (J:o.op= .call {callee:= .builtin .append,args:= #[s,x],argTypes:= #[t,t]})
  (base:Nat) (e:TypeId) (i:TypeInfo) (z:Value) (bytes:Nat) (N:P.underlying t=ϊ (.slice e)) (hi:P.info? e=ϊ i) (ak:i.zero=ϊ z)
  (aj:i.size=1) (aa:i.bytes=bytes) (al:z.cells.size=1)
  (v:Value) (k:IntKind) (l:List Int) (M:a.eval s=v) (G:w.ownsRow base e 1 v l.length (l.map (Value.int k)))
  (O:Value) (d:List Int) (H:a.eval x=O) (I:SlI k w O d)
  (ac:(l.length+d.length)* bytes<=140737488355328) (ab:1<=bytes) (Y:base<=w.heap.size)
  (h: ∀v' w',w'.ownsRow base e 1 v' (l++d).length ((l++d).map (Value.int k))->w.grownBy w' v.ownBlock->(v'.ownBlock=v.ownBlock∨v'.ownBlock=ϊ w.heap.size)->C w'/\K (a.put o.dst v') w'):jn P C o a w K:=by
 have af:=I;obtain⟨am,cap,rfl,an,ao,ap,aq,ag⟩:=I;cases am with
 | some ad=>exact XV s x t J base e i z bytes N hi ak aj aa al v k l M G ad cap d H af ac ab Y h
 | none=>
  have U:cap=0:=ag rfl;subst U;have ah:d=[]:=Ϧ τ;subst ah;have ai:=run_append_owned_none (P:=P) (w:=w) base t o.type e i 1 N hi v l.length (l.map (Value.int k)) G;have ae:=h v w (by simpa using G) ⟨rfl,rfl,rfl,ϕ _,λ_ _ _=>rfl⟩ (ϒ rfl);simp only[Ϫ] at H;unfold jn execOp;simp only[J,resolve,invoke,builtin,Sem.run_bind,Sem.run_pure,Result.andThen_ok,J3,Ϭ,D5,M,H,ai];exact ae
inductive Tr where
 | done
 | op (k:Nat) (b:Bool) (t:Tr)
 | br (ks:List Nat) (f:Nat->Tr)
def Tr.has:Nat->Tr->Bool
 | 0,.done=>ό
 | n+1,.op _ _ t=>t.has n
 | n+1,.br ks f=>ks.all λk=>(f k).has n
 | _,_=>ύ
section
variable {P:Program} {ops:Array Oper} {md:Region.Mode} {C:World->Prop}
def trB (md:Region.Mode) (ops:Array Oper) (T:Nat):Tr->Array Bool->Bool
 | .done,listed=>(Region.ready md ops listed).isEmpty
 | .op k ό t,listed=>decide (k<ops.size)&&decide (Region.ready md ops listed=[k])&&trB md ops T t (listed.setIfInBounds k ό)
 | .op k ύ t,listed=>decide (k<ops.size)&&(Region.ready md ops listed).contains k&&Region.free md ops listed k&&((ops[k]?).map (JU ·.op)).getD ύ&&Wq md ops T k&&trB md ops T t (listed.setIfInBounds k ό)
 | .br ks f,listed=> !ks.isEmpty&&decide (Region.ready md ops listed=ks)&&ks.all λk=>decide (k<ops.size)&&trB md ops T (f k) (listed.setIfInBounds k ό)
def zk (P:Program) (ops:Array Oper) (T:Nat) (C:World->Prop) (Q:Act->World->Prop):Tr->Act->World->Prop
 | .done,a,w=>Q a w
 | .op k ό t,a,w=>if Region.wanted (ops[k]?.getD default) (yielded ops a.tmps) then jn P (Dem T C k) (ops[k]?.getD default) a w (zk P ops T C Q t) else C w/\zk P ops T C Q t (a.put (ops[k]?.getD default).dst undef) w
 | .op k ύ t,a,w=>C w/\if Region.wanted (ops[k]?.getD default) (yielded ops a.tmps) then (ops[k]?.getD default).quiet P a C (λa'=>zk P ops T C Q t a' w) else zk P ops T C Q t (a.put (ops[k]?.getD default).dst undef) w
 | .br ks f,a,w=> ∀k∈ks,if Region.wanted (ops[k]?.getD default) (yielded ops a.tmps) then jn P (Dem T C k) (ops[k]?.getD default) a w (zk P ops T C Q (f k)) else C w/\zk P ops T C Q (f k) (a.put (ops[k]?.getD default).dst undef) w
def yQ {T:Nat} {Q:Act->World->Prop} (M:Region.noSelect ops=ό): ∀(n:Nat) (t:Tr) (listed:Array Bool) (a:Act) (w:World),t.has n=ό->
  trB md ops T t listed=ό->zk P ops T C Q t a w->Qp P md ops T C Q n listed a w
 | 0,.done,_,_,_,_,hB,h=>⟨by simpa [trB] using hB,h⟩
 | 0,.op ..,_,_,_,hh,_,_=>by simp[Tr.has] at hh
 | 0,.br ..,_,_,_,hh,_,_=>by simp[Tr.has] at hh
 | _+1,.done,_,_,_,hh,_,_=>by simp[Tr.has] at hh
 | n+1,.op k ό t,listed,a,w,hh,hB,h=>by
  simp only[trB,B9,C4] at hB;obtain⟨⟨N,J⟩,I⟩:=hB;have H:ops[k]? =ϊ (ops[k]?.getD default):=by simp[N]
  generalize ops[k]?.getD default=o at H;refine⟨λd=>(by rw[J] at d;cases d),λi hi=> ?_⟩;rw[J] at hi;obtain rfl:i=k:=by simpa using hi
  unfold yn;unfold zk at h;simp only[H,ϥ] at h ⊢;split
  ·rename_i G;rw[ϐ G] at h;exact wj (λa' w' _ O=>yQ M n t _ a' w' hh I O) h
  ·rename_i G;rw[ώ G] at h;exact⟨yF h.1,yQ M n t _ _ w hh I h.2⟩
 | n+1,.op k ύ t,listed,a,w,hh,hB,h=>by
  simp only[trB,B9,C4] at hB;obtain⟨⟨⟨⟨⟨N,J⟩,ac⟩,U⟩,ae⟩,I⟩:=hB;have H:ops[k]? =ϊ (ops[k]?.getD default):=by simp[N]
  generalize ops[k]?.getD default=o at H;rw[H] at U;simp only[C6,ϥ] at U;unfold zk at h;simp only[H,ϥ] at h;obtain⟨aa,h⟩:=h;obtain⟨v,af,ab⟩: ∃v,gp P ops C o v a/\zk P ops T C Q t (a.put o.dst v) w:=by
   by_cases G:Region.wanted o (yielded ops a.tmps)=ό
   ·rw[ϐ G] at h;exact wI U G h
   ·rw[ώ G] at h;exact⟨undef,.inr ⟨by simpa using G,rfl⟩,h⟩
  exact gU H (Region.noSelect_spec M) (Xw ae) n listed a w aa (Region.free_spec H ac) (by simpa using J) af
   (yQ M n t _ _ w hh I ab)
 | n+1,.br ks f,listed,a,w,hh,hB,h=>by
  simp only[trB,B9,C4,G9] at hB;obtain⟨⟨ad,J⟩,I⟩:=hB;simp only[Tr.has,G9] at hh;refine⟨λd=>(by rw[J] at d;subst d;simp at ad),λi hi=> ?_⟩
  ·rw[J] at hi;have N:=(I i hi).1;have Y:=(I i hi).2;have d:=h i hi;have H:ops[i]? =ϊ (ops[i]?.getD default):=by simp[N]
   generalize ops[i]?.getD default=o at H;unfold yn;simp only[H,ϥ] at d ⊢;split
   ·rename_i G;rw[ϐ G] at d;exact wj (λa' w' _ O=>yQ M n (f i) _ a' w' (hh i hi) Y O) d
   ·rename_i G;rw[ώ G] at d;exact⟨yF d.1,yQ M n (f i) _ _ w (hh i hi) Y d.2⟩
end
section
variable {P:Program} {C:World->Prop} {l:List Oper} {T:Nat} {Q:Act->World->Prop} {k:Nat} {b:Bool} {o:Oper} {t:Tr} {a:Act} {w:World}
def zg (h:Q a w):zk P l.toArray T C Q .done a w:=h
def qH (G:l[k]? =ϊ o) (H:Region.wanted o (yielded l.toArray a.tmps)=ό) (d:C w) (h: ∀K:Act->Prop,(∀a,zk P l.toArray T C Q t a w->K a)->o.quiet P a C K):zk P l.toArray T C Q (.op k ύ t) a w:=by
 unfold zk;simp only[A5,G,ϥ];rw[ϐ H];exact⟨d,h _ (λa h=>h)⟩
def jg (G:l[k]? =ϊ o) (H:Region.wanted o (yielded l.toArray a.tmps)=ύ) (d:C w) (h:zk P l.toArray T C Q t (a.put o.dst undef) w):zk P l.toArray T C Q (.op k b t) a w:=by
 cases b
 all_goals
  unfold zk;simp only[A5,G,ϥ];rw[ώ (by rw[H];exact Bool.false_ne_true)];exact⟨d,h⟩
def qO (d:l[k]? =ϊ o) (G:Region.wanted o (yielded l.toArray a.tmps)=ό) (h: ∀K:Act->World->Prop,(∀a w,zk P l.toArray T C Q t a w->K a w)->jn P C o a w K):zk P l.toArray T C Q (.op k ό t) a w:=by
 unfold zk;simp only[A5,d,ϥ];rw[ϐ G];exact zm (λ_ h=>yF h) (h _ λa w h=>h)
def wP {i j:Nat} {t':Tr} (H:i≠j) (hi:zk P l.toArray T C Q (.op i ό t) a w) (G:zk P l.toArray T C Q (.op j ό t') a w):zk P l.toArray T C Q (.br [i,j] λk=>if k=i then t else t') a w:=by
 unfold zk at *;intro k d;simp at d;rcases d with rfl | rfl
 ·simpa using hi
 ·have: ¬k=i:=λe=>H e.symm
  simpa [this] using G
end
def gT {P:Program} {id:Nat} {l:List Oper} {C:World->Prop} (T:Nat) (t:Tr) (M:P.follows .mixedOrders=ό)
  (d:(Region.noSelect l.toArray&&trB .any l.toArray T t (Array.replicate l.length ύ)&&t.has l.length)=ό)
  (h:zk P l.toArray T C (Q .normal) t a (w.drewN 1)):(Code.region id l.toArray ό).wp P Q a w:=by
 simp only[B9] at d;obtain⟨⟨G,H⟩,I⟩:=d;refine wp_region_any M (wT (T:=T) (C:=C) (Q:=Q .normal) (λ_ _ h=>h) _ _ _ _ ?_);have J:l.toArray.size=l.length:=by simp
 rw[J];exact yQ G _ t _ a _ I H h
def zB {P:Program} {id:Nat} {l:List Oper} (d:World) (T:Nat) (t:Tr) (H:P.follows .mixedOrders=ό)
  (G:(Region.noSelect l.toArray&&trB .any l.toArray T t (Array.replicate l.length ύ)&&t.has l.length)=ό)
  (h:zk P l.toArray T (λw'=> ∃x:qt d,w'=x.w') (Q .normal) t a (w.drewN 1)):(Code.region id l.toArray ό).wp P Q a w:=
 gT (C:=λw'=> ∃x:qt d,w'=x.w') T t H G h
def wC {P:Program} {id:Nat} {l:List Oper} (S:Nat->Prop) (d:World) (T:Nat) (t:Tr) (H:P.follows .mixedOrders=ό)
  (G:(Region.noSelect l.toArray&&trB .any l.toArray T t (Array.replicate l.length ύ)&&t.has l.length)=ό)
  (h:zk P l.toArray T (λw'=> ∃x:qz S d,w'=x.w') (Q .normal) t a (w.drewN 1)):(Code.region id l.toArray ό).wp P Q a w:=
 gT (C:=λw'=> ∃x:qz S d,w'=x.w') T t H G h
section
open Go.ChangeShapes Go.WideShapes Go.ChangeAt Go.RowKit
def Gb {a:Addr} (h:w.cell? a=ϊ v):a.spot=ϋ/\a.block<w.heap.size:=by
 unfold World.cell? at h;split at h
 ·rename_i c t f d;split at h
  ·cases h
  ·rename_i G;refine⟨by simpa using G, ?_⟩;rcases V5 a.block w.heap.size with h' | h'
   ·exact h'
   ·simp[Array.getElem?_eq_none h'] at d
 ·cases h
def Byt.of_wf (h: ∀n∈l,(Lit.int .u8 n).wf=ό):Byt l:=by
 intro i;rw[ϑ];by_cases hi:i<l.length
 ·rw[ϖ hi,ϥ];exact bounds_u8 (h _ (ϛ hi))
 ·rw[F3 τ];simp
end
section
open Go.ChangeShapes Go.WideShapes Go.Deep
abbrev qL (α:Type):=World->List Value->α->Prop
def jC (P:Program) (t:TypeId) (R:qL α):Prop:=
 ∀(H:Type) (enc:TypeId×Value->H) (w:World) (base:Nat) (spare:Nat->Bool) (held:Bool) (fuel:Nat) (cs:List Value) (x:DataW H×List MemPlace),
  DataW.trod enc P w base spare held fuel t cs=ϊ x-> ∃y,R w cs y
def QQ (R:qL α):Prop:= ∀(w w':World) (cs:List Value) (y:α),ql w w'->R w cs y->R w' cs y
def yW (k:IntKind):qL Int:=λ_ cs n=>cs=[.int k n]/\(Lit.int k n).wf=ό
def DS:qL Bool:=λ_ cs b=>cs=[.bool b]
def Gp:qL Unit:=λ_ cs _=>cs=[]
def zf {β:Type} (n:Nat) (R:qL α) (Q:qL β):qL (α×β):=λw cs y=>R w (cs.take n) y.1/\Q w (cs.drop n) y.2
def LK (m n:Nat) (R:qL α):qL (List α):=λw cs L=>cs.length=m* n/\L.length=m/\ ∀i (hi:i<L.length),R w ((cs.drop (i* n)).take n) L[i]
def SlP (n:Nat) (R:qL α) (w:World) (v:Value) (L:List α):Prop:=
 ∃oa cap,v= .slice oa L.length cap/\(L.length:Int)<=9223372036854775807/\
  (∀i (hi:i<L.length),∃b off cs,oa=ϊ ⟨b,off,ϋ⟩/\b<w.heap.size/\cs.length=n/\(∀j,j<n->w.cell? ⟨b,off+i* n+j,ϋ⟩=cs[j]?)/\R w cs L[i])/\
  L.length<=cap/\cap<=maxLen/\(oa=ϋ->cap=0)
def RSl (n:Nat) (R:qL α):qL (List α):=λw cs L=> ∃v,cs=[v]/\SlP n R w v L
def SlP.keep {R:qL α} {L:List α} (M:QQ R) (h:SlP n R w v L) (m:ql w w'):SlP n R w' v L:=by
 obtain⟨aa,cap,G,H,I,J⟩:=h;refine⟨aa,cap,G,H,λi hi=> ?_,J⟩;obtain⟨b,ab,cs,e,d,U,N,Y⟩:=I i hi;exact⟨b,ab,cs,e,ϗ d m.size,U,λj O=>by rw[m.cells b _ d];exact N j O,M _ _ _ _ m Y⟩
section
variable {P:Program} {t e:TypeId}
def jC.int (d:P.underlying t=ϊ (.int k)):jC P t (yW k):=λ_ _ _ _ _ _ _ _ _ h=>by
 obtain⟨n,rfl,_,G⟩:=DataW.trod_int d h;exact⟨n,rfl,G⟩
def jC.bool (d:P.underlying t=ϊ .bool):jC P t DS:=λ_ _ _ _ _ _ _ _ _ h=>by
 obtain⟨n,rfl,_⟩:=DataW.trod_bool d h;exact⟨n,rfl⟩
def SlP.nil (n:Nat) (R:qL α) (w:World):SlP n R w (δ ϋ 0 0) []:=⟨ϋ,0,rfl,η,λi hi=>by simp at hi,η,by unfold maxLen;omega,λ_=>rfl⟩
def uE {p:Nat->α->Prop}: ∀(n:Nat),(∀i,i<n-> ∃y,p i y)-> ∃L:List α,L.length=n/\ ∀i (hi:i<L.length),p i L[i]
 | 0,_=>⟨[],rfl,λi hi=>by simp at hi⟩
 | n+1,h=>by
  obtain⟨L,d,G⟩:=uE n (λi hi=>h i τ);obtain⟨y,H⟩:=h n τ;refine⟨L++[y],by simp[d],λi hi=> ?_⟩;simp at hi;by_cases e:i<L.length
  ·rw[M2 e];exact G i e
  ·obtain rfl:i=L.length:=by omega
   simp[d,H]
def jC.sl {R:qL α} (ar:P.underlying t=ϊ (.slice e)) (an:P.cellsOf e=n) (aF:1<=n) (h:jC P e R):jC P t (RSl n R):=λac ad w base ay ai aB cs x av=>by
 rcases open_slice ar av with ⟨rfl,_⟩ | ⟨a,ab,cap,m,ax,D,az,rfl,aC,al,U,am,_,hi⟩
 ·exact⟨[],_,rfl,SlP.nil n R w⟩
 ·have aE:ab<=m:=by rw[am];split<;>omega
  rw[an] at hi
  obtain⟨L,H,Y⟩:=uE (p:=λi y=> ∃cs,w.cells? base (a.add (i* n)) n=ϊ cs/\R w cs y) ab (λi O=>by
   obtain⟨cs',I,au⟩:=hi i τ;obtain⟨y,aw⟩:=h ac ad w base ay ai ax cs' _ au
   exact⟨y,cs',I,aw⟩)
  refine⟨L,_,rfl,ϊ a,cap,by rw[H],by rw[H];unfold maxLen at U;omega,λi O=> ?_,by rw[H];exact al,U,λh=>by cases h⟩;obtain⟨cs',I,ao⟩:=Y i O;obtain⟨_,ah,N⟩:=World.cells?_some I;have G:=N 0 τ;rw[ϖ τ] at G;have ap:=Gb G;obtain⟨b,d,sp⟩:=a;have M: ∀k,(⟨b,d,sp⟩:Addr).add k=⟨b,d+k,if k=0 then sp else ϋ⟩:=by
   intro k;unfold Addr.add;split
   ·rename_i ak;subst ak;rfl
   ·rfl
  have af:b<w.heap.size:=by
   have:=ap.2;rw[M] at this;unfold Addr.add at this;exact this
  have aq:sp=ϋ:=by
   obtain⟨aA,ag,_⟩:=Y 0 τ;obtain⟨_,aD,ae⟩:=World.cells?_some ag;have J:=ae 0 τ;rw[ϖ τ] at J;have aa:=(Gb J).1;simp[Addr.add] at aa;exact aa
  subst aq;refine⟨b,d,cs',rfl,af,ah,λj aj=> ?_,ao⟩;rw[<-N j aj,M];have:(⟨b,d+i* n,if i* n=0 then ϋ else ϋ⟩:Addr)=⟨b,d+i* n,ϋ⟩:=by split<;>rfl
  rw[this];unfold Addr.add;split
  ·rename_i G;subst G;rfl
  ·rfl
def jH (P:Program) (fs:List Field) (off:Nat) (R:qL α):Prop:=
 ∀(H:Type) (enc:TypeId×Value->H) (w:World) (base:Nat) (spare:Nat->Bool) (held:Bool) (n total:Nat) (cs:List Value),cs.length=total->total=off+(fs.map λf=>P.cellsOf f.type).sum->
  (∀f∈fs,∃x,DataW.trod enc P w base spare held n f.type ((cs.drop f.offset).take (P.cellsOf f.type))=ϊ x)-> ∃y,R w (cs.drop off) y
def jH.nil {G:Nat}:jH P [] G Gp:=λ_ _ _ _ _ _ _ _ cs H d _=>⟨(),by
 simp at d
 exact G8 τ⟩
def jH.cons {β:Type} {f:Field} {I:List Field} {d:Nat} {R:qL α} {Q:qL β} (ab:f.offset=d) (M:P.cellsOf f.type=n) (h:jC P f.type R) (k:jH P I (d+n) Q):jH P (f::I) d (zf n R Q):=λG H w base U J m af cs aa ac N=>by
 obtain⟨x,ad⟩:=N f η;obtain⟨y,O⟩:=h G H w base U J m _ x ad;obtain⟨z,ae⟩:=k G H w base U J m af cs aa (by rw[ac];simp[M];omega) (λg Y=>N g (by simp[Y]));rw[ab,M] at O;exact⟨(y,z),O,by rw[T1];exact ae⟩
def jC.struct {d:Array Field} {R:qL α} (Y:P.underlying t=ϊ (.struct d)) (I:P.cellsOf t=(d.toList.map λf=>P.cellsOf f.type).sum) (h:jH P d.toList 0 R):jC P t R:=λG H w base ac J ad cs x aa=>by
 obtain⟨xs,n,_,_,U,ae,M⟩:=DataW.trod_struct Y aa
 obtain⟨y,ab⟩:=h G H w base ac J n _ cs rfl (by rw[U,I];omega) (λf N=>by
  obtain⟨i,hi,rfl⟩:=A4.1 N;have O:i<d.size:=by simpa using hi
  have:=M i d[i] (by simp[O]);rw[ϖ τ] at this
  exact⟨_,by simpa using this⟩)
 exact⟨y,by simpa using ab⟩
def jC.arr {m:Nat} {R:qL α} (Y:P.underlying t=ϊ (.array m e)) (O:P.cellsOf e=n) (J:P.cellsOf t=m* n) (h:jC P e R):jC P t (LK m n R):=λG H w base ac M ad cs x aa=>by
 obtain⟨xs,ab,_,_,N,ae,d⟩:=DataW.trod_array Y aa;rw[O] at d
 obtain⟨L,I,U⟩:=uE (p:=λi y=>R w ((cs.drop (i* n)).take n) y) m (λi hi=>by
  have:=d i hi;rw[ϖ τ] at this
  exact h G H w base ac M ab _ _ this)
 exact⟨L,by rw[N,J],I,U⟩
end
def SlP.ints (h:SlP 1 (yW k) w v L):SlI k w v L/\ ∀n∈L,(Lit.int k n).wf=ό:=by
 obtain⟨ab,cap,M,N,d,O⟩:=h;refine⟨⟨ab,cap,M,N,λi hi=> ?_,O⟩,λn Y=> ?_⟩
 ·obtain⟨b,J,cs,e,G,U,H,I,_⟩:=d i hi;refine⟨b,J,e,G, ?_⟩;have:=H 0 τ;rw[I] at this
  simpa [hi] using this
 ·obtain⟨i,hi,rfl⟩:=A4.1 Y;obtain⟨b,J,cs,e,G,U,H,I,aa⟩:=d i hi;exact aa
end
def jw (R:qL α) (D:Nat->Prop) (w:World) (cs:List Value) (y:α):Prop:= ∀w',jt D w w'->R w' cs y
section
variable {α:Type} {R:qL α} {D D':Nat->Prop} {w w':World} {cs:List Value} {y:α}
def jw.read (h:jw R D w cs y):R w cs y:=h w (jt.refl D w)
def jw.step (h:jw R D w cs y) (a:jt D w w'):jw R D w' cs y:=λ_ b=>h _ (a.trans b)
def jw.on (h:jw R D w cs y) (a:ql w w'):jw R D w' cs y:=h.step (jt.of_more a)
def jw.other (h:jw R D w cs y) (k: ∀b,D' b->D b∨w.heap.size<=b):jw R D' w cs y:=λw' a=>
 h w' ⟨a.os,a.tape,a.output,a.size,λb d G=>a.block b d (λx=>by
  rcases k b x with e | e
  ·exact G e
  ·omega)⟩
def jw.old (d:QQ R) (h:R w cs y) (k: ∀b,D b->w.heap.size<=b):jw R D w cs y:=λw' a=>
 d w w' cs y ⟨a.os,a.tape,a.output,a.size,λb G=>a.block b G (λx=>by have:=k b x;omega)⟩ h
end
def SlI.off (h:SlI k w v l) (J: ∀b,v.ownBlock=ϊ b-> ¬D b) (a:jt D w w'):SlI k w' v l:=by
 obtain⟨N,cap,rfl,G,H,I⟩:=h;refine⟨N,cap,rfl,G,λi hi=> ?_,I⟩;obtain⟨b,off,rfl,d,M⟩:=H i hi;exact⟨b,off,rfl,ϗ d a.size,by rw[a.cells b _ d (J b rfl)];exact M⟩
def SlP.of_ints (h:SlI k w v l) (N: ∀n∈l,(Lit.int k n).wf=ό):SlP 1 (yW k) w v l:=by
 obtain⟨O,cap,G,H,I,J⟩:=h;refine⟨O,cap,G,H,λi hi=> ?_,J⟩;obtain⟨b,U,e,M,d⟩:=I i hi;refine⟨b,U,[.int k l[i]],e,M,rfl,λj Y=> ?_,rfl,N _ (ϛ hi)⟩;obtain rfl:j=0:=by omega
 simp at d ⊢;rw[d];simp[hi]
structure je {α:Type} (n:Nat) (R:qL α) (D:Nat->Prop) (w:World) (base e:Nat) (v:Value) (L:List α):Prop where
 row: ∃xs,w.ownsRow base e n v L.length xs/\ ∀i (hi:i<L.length),jw R (λk=>D k∨v.ownBlock=ϊ k) w ((xs.drop (i* n)).take n) L[i]
 apart: ∀b,v.ownBlock=ϊ b-> ¬D b
section
variable {α:Type} {n:Nat} {R:qL α} {D:Nat->Prop} {w w':World} {base e:Nat} {v:Value} {L:List α}
def je.nil (n:Nat) (R:qL α) (D:Nat->Prop) (w:World) (base e:Nat):je n R D w base e (δ ϋ 0 0) []:=
 ⟨⟨[],World.ownsRow_nil w base e n,λi hi=>by simp at hi⟩,λb h=>by cases h⟩
def je.step (h:je n R D w base e v L) (a:jt D w w'):je n R D w' base e v L:=by
 obtain⟨⟨xs,⟨G,H⟩,I⟩,d⟩:=h;refine⟨⟨xs,⟨G, ?_⟩,λi hi=>(I i hi).step (a.mono λk J=>ϒ J)⟩,d⟩;rcases H with h | ⟨g,cap,cur,e1,hb,hg,rest⟩
 ·exact ϒ h
 ·exact ϔ ⟨g,cap,cur,e1,hb,a.blk hg (d g (by rw[e1];rfl)),rest⟩
def je.on (h:je n R D w base e v L) (a:ql w w'):je n R D w' base e v L:=h.step (jt.of_more a)
def je.shape (h:je n R D w base e v L): ∃oa m cap,v= δ oa m cap/\m=L.length/\L.length<=cap:=by
 obtain⟨⟨xs,d,_⟩,_⟩:=h;rcases d.2 with ⟨rfl,e⟩ | ⟨b,cap,cur,rfl,_,_,G,_⟩
 ·exact⟨ϋ,0,0,rfl,τ,τ⟩
 ·exact⟨_,_,cap,rfl,rfl,G⟩
def je.lt (h:je n R D w base e v L) (d:v.ownBlock=ϊ b):b<w.heap.size:=by
 obtain⟨⟨xs,H,_⟩,_⟩:=h;rcases H.2 with ⟨rfl,_⟩ | ⟨G,cap,cur,rfl,_,I,_⟩
 ·cases d
 ·obtain rfl:G=b:=by injection d
  exact lt_of_block I
def je.ge (h:je n R D w base e v L) (d:v.ownBlock=ϊ b):base<=b:=by
 obtain⟨⟨xs,H,_⟩,_⟩:=h;rcases H.2 with ⟨rfl,_⟩ | ⟨G,cap,cur,rfl,I,_⟩
 ·cases d
 ·obtain rfl:G=b:=by injection d
  exact I
def je.sl (h:je n R D w base e v L) (ac:0<n):SlP n R w v L:=by
 obtain⟨⟨xs,⟨I,J⟩,M⟩,_⟩:=h;rcases J with ⟨rfl,H⟩ | ⟨g,cap,cur,rfl,aa,G,U,d,ab,Y⟩
 ·obtain rfl:L=[]:=Ϧ H;exact SlP.nil n R w
 ·refine⟨_,cap,rfl,by unfold maxLen at d;omega,λi hi=>⟨g,0,_,rfl,lt_of_block G, ?_,λj O=> ?_,(M i hi).read⟩,U,d,λh=>by cases h⟩
  ·have N:i* n+n<=L.length* n:=by
    have:(i+1)* n<=L.length* n:=A7 n hi;rw[G0,N0] at this;exact this
   rw[Ϡ,ϣ,I];omega
  ·have N:i* n+n<=L.length* n:=by
    have:(i+1)* n<=L.length* n:=A7 n hi;rw[G0,N0] at this;exact this
   rw[D8,cell_of_row w g _ cur e (0,0) G,B3,ϐ O,D1,<-Y,B3,ϐ τ];simp
end
def uI {P:Program} (w:World) (base:Nat) (t Y e:TypeId) (i:TypeInfo) (z:Value) (n bytes:Nat) (av:P.underlying t=ϊ (.slice e)) (hi:P.info? e=ϊ i) (ax:i.zero=ϊ z)
  (au:i.size=n) (ag:i.bytes=bytes) (ay:z.cells.size=n) (an:0<n)
  {R:qL α} (v:Value) (L:List α) (aq:je n R D w base e v L)
  (B:Nat) (cs:List Value) (y:α) (al:cs.length=n) (ao: ∀j u,cs[j]? =ϊ u->w.cell? ⟨B,j,ϋ⟩=ϊ u) (ac: ∀u∈cs,u.oneCell'=ό)
  (aw:jw R (λk=>D k∨v.ownBlock=ϊ k) w cs y) (ad: ∀b,D b->b<w.heap.size)
  (az:1<=bytes) (ah:(L.length+1)* bytes<=140737488355328) (af:base<=w.heap.size):
  ∃v' w',(Builtin.append_ #[t,t] Y #[v,δ (ϊ ⟨B,0,ϋ⟩) 1 1]).run P w= .ok v' w'/\je n R D w' base e v' (L++[y])/\w.grownBy w' v.ownBlock/\(v'.ownBlock=v.ownBlock∨v'.ownBlock=ϊ w.heap.size):=by
 obtain⟨⟨xs,M,aj⟩,ae⟩:=aq;have am:L.length+1<=maxLen:=by
  have:=J0 (L.length+1) (show 0<bytes by omega);unfold maxLen;omega
 obtain⟨v',w',ar,ap,G,_,d⟩:=run_append_own_at (P:=P) w base t Y e i z n bytes av hi ax au ag ay an v L.length xs M ⟨B,0,ϋ⟩ 1 1 cs (by rw[al,N0]) (by
  intro j u ak;have aa:(⟨B,0,ϋ⟩:Addr).add j=⟨B,j,ϋ⟩:=by
   unfold Addr.add;split
   ·rename_i ab;subst ab;rfl
   ·simp
  rw[aa];exact ao j u ak) ac am ah af
 have ai: ∀k (J:k<(L++[y]).length),jw R (λk=>D k∨v.ownBlock=ϊ k) w (((xs++cs).drop (k* n)).take n) (L++[y])[k]:=by
  intro k J;simp at J;by_cases e:k<L.length
  ·have aA:k* n+n<=L.length* n:=by
    have:(k+1)* n<=L.length* n:=A7 n e;rw[G0,N0] at this;exact this
   have aB:=M.1;have N:((xs++cs).drop (k* n)).take n=(xs.drop (k* n)).take n:=by
    rw[G1 τ,G2 (by rw[ϣ];omega)]
   rw[N,M2 e];exact aj k e
  ·obtain rfl:k=L.length:=by omega
   have N:((xs++cs).drop (L.length* n)).take n=cs:=by
    rw[G1 (by rw[M.1];exact ϕ _),G8 (by rw[M.1];exact ϕ _),I3];exact E9 τ
   rw[N]
   simpa using aw
 refine⟨v',w',ar,⟨⟨xs++cs,by simpa using ap,λk J w'' a'=> ?_⟩, ?_⟩,G,d⟩
 ·refine ai k J w'' ⟨a'.os.trans G.os,a'.tape.trans G.tape,a'.output.trans G.output,Ϙ G.size a'.size,λb H O=> ?_⟩;rw[a'.block b (ϗ H G.size) ?_]
  ·exact G.block b H (λe=>O (ϔ e.symm))
  ·rintro(I | I)
   ·exact O (ϒ I)
   ·rcases d with d | d
    ·exact O (ϔ (by rw[<-d];exact I))
    ·rw[d] at I;have:w.heap.size=b:=by injection I
     omega
 ·intro b H U;rcases d with d | d
  ·exact ae b (by rw[<-d];exact H) U
  ·rw[d] at H;have:w.heap.size=b:=by injection H
   have:=ad b U;omega
def jN {P:Program} (w:World) {o:Oper} (aa:o.guard=ϋ) (s x:Operand) (t:TypeId)
  (ae:o.op= .call {callee:= .builtin .append,args:= #[s,x],argTypes:= #[t,t]})
  (base:Nat) (e:TypeId) (i:TypeInfo) (z:Value) (n bytes:Nat) (aj:P.underlying t=ϊ (.slice e)) (hi:P.info? e=ϊ i) (am:i.zero=ϊ z)
  (ai:i.size=n) (O:i.bytes=bytes) (an:z.cells.size=n) (ac:0<n)
  {R:qL α} (v:Value) (L:List α) (ah:a.eval s=v) (af:je n R D w base e v L)
  (B:Nat) (cs:List Value) (y:α) (ak:a.eval x= δ (ϊ ⟨B,0,ϋ⟩) 1 1) (ab:cs.length=n) (ad: ∀j u,cs[j]? =ϊ u->w.cell? ⟨B,j,ϋ⟩=ϊ u) (d: ∀u∈cs,u.oneCell'=ό)
  (al:jw R (λk=>D k∨v.ownBlock=ϊ k) w cs y) (J: ∀b,D b->b<w.heap.size)
  (U:1<=bytes) (Y:(L.length+1)* bytes<=140737488355328) (N:base<=w.heap.size)
  (h: ∀v' w',je n R D w' base e v' (L++[y])->w.grownBy w' v.ownBlock->(v'.ownBlock=v.ownBlock∨v'.ownBlock=ϊ w.heap.size)->wpList P ops Q rest (a.put o.dst v') w'):wpList P ops Q (o::rest) a w:=by
 refine wpList_plain aa λK M=> ?_
 obtain⟨v',w',ag,G,H,I⟩:=uI (P:=P) w base t o.type e i z n bytes aj hi am ai O an ac v L af B cs y ab ad d al J U Y N;unfold Oper.wp execOp;simp only[ae,resolve,invoke,builtin,Sem.run_bind,Sem.run_pure,Result.andThen_ok,J3,Ϭ,D5,ah,ak,ag];exact M _ _ (h v' w' G H I)
def zK {P:Program} {o:Oper} {C:World->Prop} (s x:Operand) (t:TypeId)
  (ac:o.op= .call {callee:= .builtin .append,args:= #[s,x],argTypes:= #[t,t]})
  (base:Nat) (e:TypeId) (i:TypeInfo) (z:Value) (n bytes:Nat) (ah:P.underlying t=ϊ (.slice e)) (hi:P.info? e=ϊ i) (ak:i.zero=ϊ z)
  (ag:i.size=n) (N:i.bytes=bytes) (al:z.cells.size=n) (aa:0<n)
  {R:qL α} (v:Value) (L:List α) (af:a.eval s=v) (ad:je n R D w base e v L)
  (B:Nat) (cs:List Value) (y:α) (ai:a.eval x= δ (ϊ ⟨B,0,ϋ⟩) 1 1) (Y:cs.length=n) (ab: ∀j u,cs[j]? =ϊ u->w.cell? ⟨B,j,ϋ⟩=ϊ u) (d: ∀u∈cs,u.oneCell'=ό)
  (aj:jw R (λk=>D k∨v.ownBlock=ϊ k) w cs y) (J: ∀b,D b->b<w.heap.size)
  (O:1<=bytes) (U:(L.length+1)* bytes<=140737488355328) (M:base<=w.heap.size)
  (h: ∀v' w',je n R D w' base e v' (L++[y])->w.grownBy w' v.ownBlock->(v'.ownBlock=v.ownBlock∨v'.ownBlock=ϊ w.heap.size)->C w'/\K (a.put o.dst v') w'):jn P C o a w K:=by
 obtain⟨v',w',ae,G,H,I⟩:=uI (P:=P) w base t o.type e i z n bytes ah hi ak ag N al aa v L ad B cs y Y ab d aj J O U M;unfold jn execOp;simp only[ac,resolve,invoke,builtin,Sem.run_bind,Sem.run_pure,Result.andThen_ok,J3,Ϭ,D5,af,ai,ae];exact h v' w' G H I
section
open Go.RowKit Go.ChangeShapes
structure PkS (w:World) (vs ve vp:Value) (p:Pk):Prop where
 s:SlI .u32 w vs p.ss
 e:SlI .u8 w ve p.ex
 l:SlI .u8 w vp p.pl
def PkS.keep {G d vp:Value} (h:PkS w G d vp p) (m:ql w w'):PkS w' G d vp p:=⟨h.s.keep m,h.e.keep m,h.l.keep m⟩
structure uj (p:Pk):Prop where
 s:p.ss.length<=1000000
 e:p.ex.length<=1000000
 l:p.pl.length<=1000000
def Do (p:Pk) (H G vp:Value) (w:World) (h:PkS w H G vp p) (I:uj p):
  Calls prog 154 #[(Γq p H G vp)] w λe w'=>e= .returned (ι (ww p))/\ql w w':=by
 obtain⟨⟨os,M,rfl,_⟩,⟨aa,ke,rfl,_⟩,⟨ab,J,rfl,_⟩⟩:=h;obtain⟨N,O,U⟩:=I;have d:ww p=12+4* (p.ss.length:Int)+(p.pl.length:Int)+if p.has then 4+(p.ex.length:Int) else 0:=rfl
 rw[d];clear d;obtain⟨Y,ad,sq,st,sc,ss,has,ac,ex,pl⟩:=p;simp only at *;generalize ss.length=a at *;generalize ex.length=b at *;generalize pl.length=c at *;cases has with
 | true=>
  go_enter func154,ntmps154
  go_wp2;go_ret;exact⟨xV (by simp only[A0];try omega),ql.alloc _ _⟩
 | false=>
  go_enter func154,ntmps154
  go_wp2;go_ret;exact⟨xV (by simp only[Ϯ,C2];try omega),ql.alloc _ _⟩
def gc (p:Pk) (af ae vp:Value) (w:World) (h:PkS w af ae vp p) (ai:uj p):
  Calls prog 92 #[(Γq p af ae vp)] w λe w'=>e= .returned (μ (jJ p))/\ql w w':=by
 have U:=κ h;have I:=yq p;have Y:=κ (λw' ak=>Do p af ae vp w' ak ai);obtain⟨⟨os,aq,rfl,_⟩,⟨aw,ke,rfl,am⟩,⟨ax,ap,rfl,_⟩⟩:=h;clear am;obtain⟨ar,d,au⟩:=ai;obtain⟨aj,ad⟩:=ν (ww p);rw[ad] at I;have aa:=κ ad;clear ad;obtain⟨R,ag⟩:=ν (jJ p);rw[ag] at I ⊢;clear ag;obtain⟨av,an,sq,st,sc,ss,ab,O,M,pl⟩:=p;simp only at *;have ah:M=[]↔M.length=0:=List.length_eq_zero_iff.symm;rw[ah] at I;clear ah;by_cases h1:an<=127
 ·by_cases h2:(ss.length:Int)<=15
  ·by_cases H:ab=ύ/\ ¬(O=0)
   ·obtain⟨rfl,H⟩:=H
    have J:Hid (R=ύ):=κ (by
     cases R with
     | false=>rfl
     | true=>exact ϩ ((I.1 rfl).2.2.1 rfl).1 H)
    have ac:(O != 0)=ό:=by simpa using H
    clear I H
    go_enter func92,ntmps92
    go_wp2_with (go_at_call 154;(go_call Y.o _ (U.o.keep W4) as e w2 ⟨rfl,d⟩;rw[aa.o];have G:=κ d;clear d))
    go_ret;exact⟨by rw[J.o];first | rfl | (simp;omega),by first | exact ql.alloc _ _ | exact W4.trans G.o⟩
   ·by_cases N:ab=ύ/\ ¬(M.length=0)
    ·obtain⟨rfl,N⟩:=N
     have J:Hid (R=ύ):=κ (by
      cases R with
      | false=>rfl
      | true=>exact ϩ ((I.1 rfl).2.2.1 rfl).2 N)
     obtain rfl:O=0:=by
      by_cases e:O=0
      ·exact e
      ·exact ϩ ⟨rfl,e⟩ H
     have ac:(0:Int)<(M.length:Int):=by omega
     clear I H N
     go_enter func92,ntmps92
     go_wp2_with (go_at_call 154;(go_call Y.o _ (U.o.keep W4) as e w2 ⟨rfl,d⟩;rw[aa.o];have G:=κ d;clear d))
     go_ret;exact⟨by rw[J.o];first | rfl | (simp;omega),by first | exact ql.alloc _ _ | exact W4.trans G.o⟩
    ·by_cases h5:(M.length:Int)%4=0
     ·have al:((M.length:Int)).tmod 4=0:=by rw[D3 τ];exact h5
      by_cases h6:aj<=200
      ·have J:Hid (R=ό):=κ (I.2 ⟨h1,h2,λe=>⟨by
        by_cases z:O=0
        ·exact z
        ·exact ϩ ⟨e,z⟩ H,by
        by_cases z:M.length=0
        ·exact z
        ·exact ϩ ⟨e,z⟩ N⟩,h5,h6⟩)
       clear I h5;cases ab with
       | true=>
        clear H N
        go_enter func92,ntmps92
        go_wp2_with (go_at_call 154;(go_call Y.o _ (U.o.keep W4) as e w2 ⟨rfl,d⟩;rw[aa.o];have G:=κ d;clear d))
        go_ret;exact⟨by rw[J.o];first | rfl | (simp;omega),by first | exact ql.alloc _ _ | exact W4.trans G.o⟩
       | false=>
        obtain rfl:O=0:=by
         by_cases e:O=0
         ·exact e
         ·exact ϩ ⟨rfl,e⟩ H
        have ac: ¬(0:Int)<(M.length:Int):=by
         by_cases e:M.length=0
         ·omega
         ·exact ϩ ⟨rfl,e⟩ N
        clear H N
        go_enter func92,ntmps92
        go_wp2_with (go_at_call 154;(go_call Y.o _ (U.o.keep W4) as e w2 ⟨rfl,d⟩;rw[aa.o];have G:=κ d;clear d))
        go_ret;exact⟨by rw[J.o];first | rfl | (simp;omega),by first | exact ql.alloc _ _ | exact W4.trans G.o⟩
      ·have J:Hid (R=ύ):=κ (by
        cases R with
        | false=>rfl
        | true=>exact ϩ (I.1 rfl).2.2.2.2 h6)
       clear I h5;cases ab with
       | true=>
        clear H N
        go_enter func92,ntmps92
        go_wp2_with (go_at_call 154;(go_call Y.o _ (U.o.keep W4) as e w2 ⟨rfl,d⟩;rw[aa.o];have G:=κ d;clear d))
        go_ret;exact⟨by rw[J.o];first | rfl | (simp;omega),by first | exact ql.alloc _ _ | exact W4.trans G.o⟩
       | false=>
        obtain rfl:O=0:=by
         by_cases e:O=0
         ·exact e
         ·exact ϩ ⟨rfl,e⟩ H
        have ac: ¬(0:Int)<(M.length:Int):=by
         by_cases e:M.length=0
         ·omega
         ·exact ϩ ⟨rfl,e⟩ N
        clear H N
        go_enter func92,ntmps92
        go_wp2_with (go_at_call 154;(go_call Y.o _ (U.o.keep W4) as e w2 ⟨rfl,d⟩;rw[aa.o];have G:=κ d;clear d))
        go_ret;exact⟨by rw[J.o];first | rfl | (simp;omega),by first | exact ql.alloc _ _ | exact W4.trans G.o⟩
     ·have al:(((M.length:Int)).tmod 4==0)=ύ:=by
       rw[beq_eq_false_iff_ne,D3 τ];exact h5
      have ao:((M.length:Int)%4==0)=ύ:=by rw[beq_eq_false_iff_ne];exact h5
      have J:Hid (R=ύ):=κ (by
       cases R with
       | false=>rfl
       | true=>exact ϩ (I.1 rfl).2.2.2.1 h5)
      clear I h5;cases ab with
      | true=>
       clear H N
       go_enter func92,ntmps92
       go_wp2_with (go_at_call 154;(go_call Y.o _ (U.o.keep W4) as e w2 ⟨rfl,d⟩;rw[aa.o];have G:=κ d;clear d))
       go_ret;exact⟨by rw[J.o];first | rfl | (simp;omega),by first | exact ql.alloc _ _ | exact W4.trans G.o⟩
      | false=>
       obtain rfl:O=0:=by
        by_cases e:O=0
        ·exact e
        ·exact ϩ ⟨rfl,e⟩ H
       have ac: ¬(0:Int)<(M.length:Int):=by
        by_cases e:M.length=0
        ·omega
        ·exact ϩ ⟨rfl,e⟩ N
       clear H N
       go_enter func92,ntmps92
       go_wp2_with (go_at_call 154;(go_call Y.o _ (U.o.keep W4) as e w2 ⟨rfl,d⟩;rw[aa.o];have G:=κ d;clear d))
       go_ret;exact⟨by rw[J.o];first | rfl | (simp;omega),by first | exact ql.alloc _ _ | exact W4.trans G.o⟩
  ·have J:Hid (R=ύ):=κ (by
    cases R with
    | false=>rfl
    | true=>exact ϩ (I.1 rfl).2.1 h2)
   have ac:(15:Int)<(ss.length:Int):=by omega
   clear I
   go_enter func92,ntmps92
   go_wp2_with (go_at_call 154;(go_call Y.o _ (U.o.keep W4) as e w2 ⟨rfl,d⟩;rw[aa.o];have G:=κ d;clear d))
   go_ret;exact⟨by rw[J.o];first | rfl | (simp;omega),by first | exact ql.alloc _ _ | exact W4.trans G.o⟩
 ·have J:Hid (R=ύ):=κ (by
   cases R with
   | false=>rfl
   | true=>exact ϩ (I.1 rfl).1 h1)
  clear I
  go_enter func92,ntmps92
  go_wp2_with (go_at_call 154;(go_call Y.o _ (U.o.keep W4) as e w2 ⟨rfl,d⟩;rw[aa.o];have G:=κ d;clear d))
  go_ret;exact⟨by rw[J.o];first | rfl | (simp;omega),by first | exact ql.alloc _ _ | exact W4.trans G.o⟩
def Zd (b:List Int):Bool:=decide (2<=b.length)&&decide (192<=b.getD 1 0)&&decide (b.getD 1 0<=223)
def V3 (v:Value) (b:List Int) (w:World) (I:SlI .u8 w v b):
  Calls prog 129 #[v] w λe w'=>e= .returned (μ (Zd b))/\w=w':=by
 obtain⟨Y,M,rfl,U,d,_⟩:=I;have G:Zd b=(decide (2<=b.length)&&decide (192<=b.getD 1 0)&&decide (b.getD 1 0<=223)):=rfl;rw[G];clear G;by_cases h2:2<=b.length
 ·obtain⟨J,aa,rfl,N,O⟩:=d 1 τ;have H:(2:Int)<=(b.length:Int):=by omega
  rw[ϭ h2];clear d;generalize b.getD 1 0=x at *;by_cases h3:192<=x
  ·by_cases h4:x<=223
   ·go_enter func129,ntmps129
    go_wp2;go_ret;simp[h3,h4]
   ·go_enter func129,ntmps129
    go_wp2;go_ret;simp[h3,h4]
  ·go_enter func129,ntmps129
   go_wp2;go_ret;simp[h3]
   try omega
 ·have H: ¬(2:Int)<=(b.length:Int):=by omega
  rw[ϫ h2];clear d
  go_enter func129,ntmps129
  go_wp2;go_ret;simp
end
def WrX (w0 w:World) (W B:Nat) (o:Obj) (l:List Int):Prop:= ∃v,WrK w0 w W v l B o
def WrX.start {w2:World} {o:Obj} (m:ql (w.alloc o) w2):WrK w (w2.alloc (.cells #[δ ϋ 0 0] 204)) w2.heap.size (δ ϋ 0 0) [] w.heap.size o:=by
 have d:w.heap.size<w2.heap.size:=qn (qq m (qj w o));exact⟨wR w2,((ql.alloc w o).trans m).al _,Q6 d,qs (qq m (qj w o)) _,τ,by simp[Value.ownBlock]⟩
def WrX.cell {d:World} {cs:Array Value} {t:TypeId} (h:WrX d w W B (.cells cs t (0,0)) l) (i:Nat) (hi:cs[i]? =ϊ v):w.cell? ⟨B,i,ϋ⟩=ϊ v:=by
 obtain⟨v',k⟩:=h;exact qm k.keep i hi
def WrX.more {d:World} {o:Obj} (h:WrX d w W B o l):ql d w:=by
 obtain⟨v',k⟩:=h;exact k.more
def ju (n s:Int):(qy n s).length<=8:=by
 unfold qy;split
 ·rw[zP];omega
 ·simp
def uj.of_right (h:jJ p=ό):uj p/\p.ss.length<=15/\p.ex.length<=200/\p.pl.length<=200:=by
 obtain⟨J,M,G,N,d⟩:=(yq p).1 h;unfold ww at d;have H:p.ex.length<=200:=by
  cases hh:p.has with
  | false=>rw[(G hh).2];simp
  | true=>rw[hh] at d;simp only[A0] at d;omega
 have I:p.pl.length<=200:=by split at d<;>omega
 exact⟨⟨τ,τ,τ⟩,τ,H,I⟩
def gi (p:Pk) (aA az vp:Value) (w:World) (h:PkS w aA az vp p) (an:uf p) (ax:jJ p=ό):
  Calls prog 37 #[(Γq p aA az vp)] w λe w'=>(∃v,e= .returned (.tuple #[v,ι 0])/\w'.ownsRow w.heap.size 5 1 v (pkB p).length ((pkB p).map (Value.int .u8)))/\ql w w':=by
 obtain⟨bU,cz,cA,cB⟩:=uj.of_right ax;have aw:=κ h;have bC:=κ (gc p aA az vp (w.alloc (.cells (Γq p aA az vp) 63)) (h.keep W4) bU);have bS:=(yq p).1 ax;have bB:=κ ax;obtain⟨⟨os,ar,rfl,_⟩,⟨au,ke,rfl,bT⟩,⟨av,aq,rfl,_⟩⟩:=h;clear bT;have t1:=an.ty;have t2:=an.sq;have t3:=an.st;have t4:=an.sc;have bZ:=an.pr;have bD:=κ an.ss;obtain⟨co,cp,bO,cq,_⟩:=bS;obtain⟨aa,aI,o2,bh⟩: ∃aa,(p.has=ύ->aa=128+(p.ss.length:Int))/\(p.has=ό->aa=128+(p.ss.length:Int)+16)/\aa=CT p:=⟨_,λe=>by simp[CT,e],λe=>by simp[CT,e],rfl⟩;obtain⟨ab,aJ,aK,bi⟩: ∃ab,(p.mr=ύ->ab=p.ty)/\(p.mr=ό->ab=p.ty+128)/\ab=CN p:=⟨_,λe=>by simp[CN,e],λe=>by simp[CN,e],rfl⟩;have bP:0<=aa/\aa<=255:=by
  cases hh:p.has with
  | false=>rw[aI hh];omega
  | true=>rw[o2 hh];omega
 have bQ:0<=ab/\ab<=255:=by
  cases hh:p.mr with
  | false=>rw[aJ hh];omega
  | true=>rw[aK hh];omega
 have aG:pkB p=qy aa 1++qy ab 1++qy p.sq 2++qy p.st 4++qy p.sc 4++ssB p.ss++(if p.has then qy p.pr 2++qy ((p.ex.length:Int)/4) 2++p.ex else [])++p.pl:=by
  rw[bh,bi];rfl
 obtain⟨ao,aD,aE,aN⟩: ∃ao,(p.has=ύ->ao=[])/\(p.has=ό->ao=qy p.pr 2++qy ((p.ex.length:Int)/4) 2++p.ex)/\ao=if p.has then qy p.pr 2++qy ((p.ex.length:Int)/4) 2++p.ex else []:=⟨if p.has then qy p.pr 2++qy ((p.ex.length:Int)/4) 2++p.ex else [],λe=>by simp[e],λe=>by simp[e],rfl⟩
 rw[<-aN] at aG;have cy:ao.length<=300:=by
  have:=ju p.pr 2;have:=ju ((p.ex.length:Int)/4) 2;cases hh:p.has with
  | false=>rw[aD hh];simp
  | true=>rw[aE hh];simp only[Ϗ];omega
 rw[aG];clear ax an aG bh bi aN;obtain⟨mr,ty,sq,st,sc,ss,has,pr,ex,pl⟩:=p;simp only at *;have bJ:=κ aI;have bK:=κ o2;have bL:=κ aJ;have bM:=κ aK;have bu:=κ aD;have bv:=κ aE;have w1:IntKind.i64.wrap (128+(ss.length:Int))=128+(ss.length:Int):=IntWalk.i64_in _ τ;have bW:IntKind.u8.wrap (128+(ss.length:Int))=128+(ss.length:Int):=by
  show (128+(ss.length:Int))%256=_;omega
 obtain⟨s0,s1⟩:=t2;obtain⟨cG,cH⟩:=bP;obtain⟨cE,cF⟩:=bQ;obtain⟨t0,t1⟩:=t1;obtain⟨a0,ci⟩:=t3;obtain⟨cj,ck⟩:=t4;obtain⟨cm,c1⟩:=bZ;clear aI o2 aJ aK aD aE bO
 go_enter func37,ntmps37
 go_upto_region 3 with (go_at_call 92;(go_call bC.o as e wr ⟨rfl,aH⟩;rw[bB.o];have bH:=κ aH;have am:=κ (qq aH (qj w (.cells #[μ mr,υ ty,φ sq,ω st,ω sc,δ os ss.length ar,has,φ pr,δ au ex.length ke,δ av pl.length aq] 63)));clear aH;have d:=λn=>β0 (qr am.o n);have G:=λn=>β1 (qr am.o n);have H:=λn=>β2 (qr am.o n);have I:=λn=>β3 (qr am.o n);have J:=λn=>β4 (qr am.o n);have M:=λn=>β5 (qr am.o n);have N:=λn=>β6 (qr am.o n);have O:=λn=>β7 (qr am.o n);have U:=λn=>β8 (qr am.o n);have Y:=λn=>β9 (qr am.o n)))
 go_quiet (fail)
 clear w1 bW
 go_upto_if 21 with fail
 go_cut [4] from 20 (λbX ap=>bX= υ aa/\ap=wr.drewN nq)
 case first=>
  cases has with
  | false=>
   go_wp2;go_meet;exact⟨by rw[bJ.o η],rfl⟩
  | true=>
   go_wp2;go_meet;exact⟨by rw[bK.o η],rfl⟩
 case rest=>
 obtain⟨rfl,rfl⟩:=hcut
 go_upto_if 26 with fail
 go_cut [5] from 24 (λbY ap=>bY= υ ab/\ap=wr.drewN nq)
 case first=>
  cases mr with
  | false=>
   go_wp2;go_meet;exact⟨by rw[bL.o η],rfl⟩
  | true=>
   go_wp2;go_meet;exact⟨by rw[bM.o η],rfl⟩
 case rest=>
 obtain⟨rfl,rfl⟩:=hcut;have bI:Hid (ql (w.alloc (.cells #[μ mr,υ ty,φ sq,ω st,ω sc,δ os ss.length ar,has,φ pr,δ au ex.length ke,δ av pl.length aq] 63)) (wr.drewN nq)):=κ (bH.o.dr nq);have ad:=κ (WrX.start bI.o);generalize wr.drewN nq=W3 at *;clear d G H I J M N O U Y;have d:=β0 ad.o.keep;have G:=β1 ad.o.keep;have H:=β2 ad.o.keep;have I:=β3 ad.o.keep;have J:=β4 ad.o.keep;have M:=β5 ad.o.keep;have N:=β6 ad.o.keep;have O:=β7 ad.o.keep;have U:=β8 ad.o.keep;have Y:=β9 ad.o.keep
 go_wp2_with first | (go_at_call 93;((with_reducible refine(wk ad.o.wr aa τ ζ).mono ?_);rintro e w10 ⟨rfl,bk⟩;obtain⟨cK,aU⟩:=ad.o.wrote bk;have ae:=κ aU;clear aU bk d G H I J M N O U Y;have d:=β0 ae.o.keep;have G:=β1 ae.o.keep;have H:=β2 ae.o.keep;have I:=β3 ae.o.keep;have J:=β4 ae.o.keep;have M:=β5 ae.o.keep;have N:=β6 ae.o.keep;have O:=β7 ae.o.keep;have U:=β8 ae.o.keep;have Y:=β9 ae.o.keep)) | (go_at_call 93;((with_reducible refine(wk ae.o.wr ab τ (by have:=ju aa 1;have:=ju ab 1;have:=ju sq 2;have:=ju st 4;have:=ju sc 4;simp only[Ϗ,Ϫ];omega)).mono ?_);rintro e ce ⟨rfl,bl⟩;obtain⟨ca,ba⟩:=ae.o.wrote bl;have ah:=κ ba;clear ba bl d G H I J M N O U Y;have d:=β0 ah.o.keep;have G:=β1 ah.o.keep;have H:=β2 ah.o.keep;have I:=β3 ah.o.keep;have J:=β4 ah.o.keep;have M:=β5 ah.o.keep;have N:=β6 ah.o.keep;have O:=β7 ah.o.keep;have U:=β8 ah.o.keep;have Y:=β9 ah.o.keep)) | (go_at_call 94;(go_call kU ah.o.wr sq τ (by have:=ju aa 1;have:=ju ab 1;have:=ju sq 2;have:=ju st 4;have:=ju sc 4;simp only[Ϗ,Ϫ];omega) as e cf ⟨rfl,bq⟩;obtain⟨cb,bb⟩:=ah.o.wrote bq;have ai:=κ bb;clear bb bq d G H I J M N O U Y;have d:=β0 ai.o.keep;have G:=β1 ai.o.keep;have H:=β2 ai.o.keep;have I:=β3 ai.o.keep;have J:=β4 ai.o.keep;have M:=β5 ai.o.keep;have N:=β6 ai.o.keep;have O:=β7 ai.o.keep;have U:=β8 ai.o.keep;have Y:=β9 ai.o.keep)) | (go_at_call 95;((with_reducible refine(uw ai.o.wr st τ (by have:=ju aa 1;have:=ju ab 1;have:=ju sq 2;have:=ju st 4;have:=ju sc 4;simp only[Ϗ,Ϫ];omega)).mono ?_);rintro e cg ⟨rfl,br⟩;obtain⟨bj,bc⟩:=ai.o.wrote br;have aj:=κ bc;clear bc br d G H I J M N O U Y;have d:=β0 aj.o.keep;have G:=β1 aj.o.keep;have H:=β2 aj.o.keep;have I:=β3 aj.o.keep;have J:=β4 aj.o.keep;have M:=β5 aj.o.keep;have N:=β6 aj.o.keep;have O:=β7 aj.o.keep;have U:=β8 aj.o.keep;have Y:=β9 aj.o.keep)) | (go_at_call 95;((with_reducible refine(uw aj.o.wr sc τ (by have:=ju aa 1;have:=ju ab 1;have:=ju sq 2;have:=ju st 4;have:=ju sc 4;simp only[Ϗ,Ϫ];omega)).mono ?_);rintro e cO ⟨rfl,bs⟩;obtain⟨cc,bd⟩:=aj.o.wrote bs;have al:=κ bd;clear bd bs d G H I J M N O U Y;have d:=β0 al.o.keep;have G:=β1 al.o.keep;have H:=β2 al.o.keep;have I:=β3 al.o.keep;have J:=β4 al.o.keep;have M:=β5 al.o.keep;have N:=β6 al.o.keep;have O:=β7 al.o.keep;have U:=β8 al.o.keep;have Y:=β9 al.o.keep))
 have ch:=κ (aw.o.s.keep al.o.more);generalize aF:([]++qy aa 1++qy ab 1++qy sq 2++qy st 4++qy sc 4)=PX at *;have cw:PX.length<=100:=by rw[<-aF];exact(by have:=ju aa 1;have:=ju ab 1;have:=ju sq 2;have:=ju st 4;have:=ju sc 4;simp only[Ϗ,Ϫ];omega)
 have bz:=κ aF;clear aF;clear ad ae ah ai aj
 go_loopw [48] (λi ap=> ∃k:Nat,k<=ss.length/\i= ι k/\WrX w ap W3.heap.size w.heap.size (.cells #[μ mr,υ ty,φ sq,ω st,ω sc,δ os ss.length ar,has,φ pr,δ au ex.length ke,δ av pl.length aq] 63) (PX++ssB (ss.take k))) (λi _=>ss.length-(intOf i).toNat)
 case atStart=>exact⟨0,τ,rfl,_,by simpa [ssB] using al.o⟩
 case round=>
  obtain⟨k,an,rfl,ay⟩:=hrel;have ac:=κ ay;have bR:(PX++ssB (ss.take k)).length<=10000:=by rw[Ϗ,WE,Ϡ];omega
  by_cases hlt:k<ss.length
  ·obtain⟨cC,cn,bN,_,aP,_⟩:=aw.o.s.keep ay.more;cases bN;obtain⟨cl,cD,rfl,cr,ct⟩:=aP k hlt;have cu:(k:Int)<(ss.length:Int):=by omega
   have aT:ss.take (k+1)=ss.take k++[ss.getD k 0]:=by rw[ϵ hlt];simp[hlt]
   have aS:PX++ssB (ss.take (k+1))=PX++ssB (ss.take k)++qy (ss.getD k 0) 4:=by rw[aT,AP,ϧ]
   have bE:=κ aS;have bV:=bD.o k;obtain⟨cN,be⟩:=ay;have aL:=κ be;clear aP aT aS be;generalize ss.getD k 0=x at *;obtain⟨cI,cJ⟩:=bV
   go_wp2_with (go_at_call 95;(go_call uw aL.o.wr x τ τ as e w8 ⟨rfl,bt⟩;obtain⟨cd,bf⟩:=aL.o.wrote bt;have bG:=κ bf;clear bf bt))
   go_roundw
   case rel=>exact⟨k+1,τ,by go_num,cd,by rw[bE.o];exact bG.o⟩
   case measure=>simp[intOf];omega
  ·obtain rfl:k=ss.length:=by omega
   rw[ϱ] at ac bR;clear ay;have d:=WrX.cell ac.o 0 (v:= μ mr) rfl;have G:=WrX.cell ac.o 1 (v:= υ ty) rfl;have H:=WrX.cell ac.o 2 (v:= φ sq) rfl;have I:=WrX.cell ac.o 3 (v:= ω st) rfl;have J:=WrX.cell ac.o 4 (v:= ω sc) rfl;have M:=WrX.cell ac.o 5 (v:= δ os ss.length ar) rfl;have N:=WrX.cell ac.o 6 (v:= μ has) rfl;have O:=WrX.cell ac.o 7 (v:= φ pr) rfl;have U:=WrX.cell ac.o 8 (v:= δ au ex.length ke) rfl;have Y:=WrX.cell ac.o 9 (v:= δ av pl.length aq) rfl;generalize aO:PX++ssB ss=PY at *;have bA:=κ aO;clear aO
   go_upto_if 56 with fail
   go_cut [] from 57 (λap=>WrX w ap W3.heap.size w.heap.size (.cells #[μ mr,υ ty,φ sq,ω st,ω sc,δ os ss.length ar,has,φ pr,δ au ex.length ke,δ av pl.length aq] 63) (PY++ao))
   case first=>
    cases has with
    | false=>
     have aB:=κ (bu.o η);go_wp2;go_meet;rw[aB.o,Ω];exact ac.o
    | true=>
     have aB:=κ (bv.o η);obtain⟨v9,bg⟩:=ac.o;have aM:=κ bg;have cx:((ex.length:Int)).tdiv 4=(ex.length:Int)/4:=O2 τ;clear bg
     go_wp2_with first | (go_at_call 94;((with_reducible refine(kU aM.o.wr pr τ τ).mono ?_);rintro e ce ⟨rfl,bm⟩;obtain⟨ca,aV⟩:=aM.o.wrote bm;have ak:=κ aV;clear aV bm d G H I J M N O U Y;have d:=β0 ak.o.keep;have G:=β1 ak.o.keep;have H:=β2 ak.o.keep;have I:=β3 ak.o.keep;have J:=β4 ak.o.keep;have M:=β5 ak.o.keep;have N:=β6 ak.o.keep;have O:=β7 ak.o.keep;have U:=β8 ak.o.keep;have Y:=β9 ak.o.keep)) | (go_at_call 94;((with_reducible refine(kU ak.o.wr ((ex.length:Int)/4) τ (by have:=ju pr 2;simp only[Ϗ] at *;omega)).mono ?_);rintro e cf ⟨rfl,bn⟩;obtain⟨cb,aW⟩:=ak.o.wrote bn;have af:=κ aW;clear aW bn d G H I J M N O U Y;have d:=β0 af.o.keep;have G:=β1 af.o.keep;have H:=β2 af.o.keep;have I:=β3 af.o.keep;have J:=β4 af.o.keep;have M:=β5 af.o.keep;have N:=β6 af.o.keep;have O:=β7 af.o.keep;have U:=β8 af.o.keep;have Y:=β9 af.o.keep)) | (go_at_call 96;(go_call uU af.o.wr _ ex (aw.o.e.keep af.o.more) (by have:=ju pr 2;have:=ju ((ex.length:Int)/4) 2;simp only[Ϗ] at *;omega) as e cg ⟨rfl,bo⟩;obtain⟨bj,aX⟩:=af.o.wrote bo;have bF:=κ aX;clear aX bo))
     go_meet;rw[aB.o];exact⟨bj,by have:=bF.o;simpa only[ϧ] using this⟩
   case rest=>
    obtain⟨cc,aY⟩:=hcut;have ag:=κ aY;clear aY ac d G H I J M N O U Y;have d:=β0 ag.o.keep;have G:=β1 ag.o.keep;have H:=β2 ag.o.keep;have I:=β3 ag.o.keep;have J:=β4 ag.o.keep;have M:=β5 ag.o.keep;have N:=β6 ag.o.keep;have O:=β7 ag.o.keep;have U:=β8 ag.o.keep;have Y:=β9 ag.o.keep;have cv:(PY++ao).length<=20000:=by rw[Ϗ];omega
    go_wp2_with first | (go_at_call 96;(go_call uU ag.o.wr _ pl (aw.o.l.keep ag.o.more) τ as e cP ⟨rfl,bp⟩;obtain⟨cL,aZ⟩:=ag.o.wrote bp;have aC:=κ aZ;clear aZ bp d G H I J M N O U Y)) | (go_at_call 97;(go_call wZ aC.o.wr (by rw[Ϗ];omega) as e cQ ⟨cM,rfl,aR,aQ⟩;have bx:=κ aR;have bw:=κ aQ;clear aR aQ))
    go_ret2
    refine⟨⟨_,rfl, ?_⟩,aC.o.more.trans bw.o⟩;have:=kq bx.o aC.o.more.size;rw[<-bA.o,<-bz.o] at this;exact this
def jY {e:Nat} {cur:Array Value} (h:w.heap[g]? =ϊ (.cells cur e (0,0))) (cs:Array Value):(w.setRow g cs).heap[g]? =ϊ (.cells cs e (0,0)):=setRow_heap w g cur cs e (0,0) h
def EC (w:World) (g:Nat) (cs:Array Value):jt (λk=>k=g) w (w.setRow g cs):=by
 refine⟨rfl,rfl,rfl,by simp[World.setRow],λb G d=> ?_⟩;unfold World.setRow;simp only;rw[F4,ώ (λe=>d e.symm)]
def qS {o:Obj} (h:w.heap[b]? =ϊ o) (cs:Array Value) (d:b≠g):(w.setRow g cs).heap[b]? =ϊ o:=(EC w g cs).blk h d
def jt.row {a b:World} (h:jt S a b) (d:S g) (cs:Array Value):jt S a (b.setRow g cs):=h.trans ((EC b g cs).mono λk e=>by rw[e];exact d)
def jt.rowNew {a b:World} (h:jt S a b) (G:a.heap.size<=g) (cs:Array Value):jt S a (b.setRow g cs):=by
 have k:=EC b g cs;exact⟨k.os.trans h.os,k.tape.trans h.tape,k.output.trans h.output,Ϙ h.size k.size,λi hi d=>by rw[k.block i (ϗ hi h.size) τ];exact h.block i hi d⟩
def jt.alc {a b:World} (h:jt S a b) (o:Obj):jt S a (b.alloc o):=h.more W4
def jt.grown {a b c:World} (h:jt S a b) {v:Option Nat} (g:b.grownBy c v) (H: ∀k,v=ϊ k->a.heap.size<=k):jt S a c:=
 ⟨g.os.trans h.os,g.tape.trans h.tape,g.output.trans h.output,Ϙ h.size g.size,λk d G=>by rw[g.block k (ϗ d h.size) (λe=>by have:=H k e.symm;omega)];exact h.block k d G⟩
def Wr: ∀(css:List (List Value)) (i j:Nat),(∀c∈css,c.length=n)->i<css.length->j<n->css.flatten[i* n+j]? =(css.getD i [])[j]?
 | [],_,_,_,h,_=>ϩ h η
 | c::css,0,j,hl,_,hj=>by
  have:=hl c η;rw[C9,M6,D8,ϻ τ];rfl
 | c::css,i+1,j,hl,hi,hj=>by
  have d:=hl c η;rw[C9,Ϻ (by rw[d,G0];omega),d,show (i+1)* n+j-n=i* n+j by rw[G0];omega];exact Wr css i j (λG H=>hl G (by simp[H])) (by simpa using hi) hj
def DN: ∀(css:List (List Value)),(∀c∈css,c.length=n)->css.flatten.length=css.length* n
 | [],_=>by simp
 | c::css,h=>by
  rw[C9,Ϗ,DN css λd G=>h d (by simp[G]),h c η,ϙ,G0];omega
def Yq (z:Array Value) (k n:Nat) (G:z.size=k) (d:0<k):madeCells z (n* k)=(List.replicate n z.toList).flatten.toArray:=by
 apply Array.ext';apply K0;intro j;have H: ∀c∈List.replicate n z.toList,c.length=k:=λc U=>by rw[F8 U];simpa using G
 by_cases hj:j<n* k
 ·have J:j/k<n:=by rw[R8 d];exact hj
  have M:j/k* k+j%k=j:=by rw[Nat.mul_comm];exact Nat.div_add_mod j k
  have I:j%k<z.size:=by rw[G];exact I6 _ d
  have:=Wr (n:=k) (List.replicate n z.toList) (j/k) (j%k) H (by simpa using J) (I6 _ d);rw[M] at this;show (madeCells z (n* k)).toList[j]? =(List.replicate n z.toList).flatten[j]?;rw[this];unfold madeCells;simp[hj,J,G,List.getElem?_replicate];rw[P2 I,getElem!_pos z (j%k) I]
 ·have N:(madeCells z (n* k)).toList[j]? =ϋ:=by rw[K5,K8,size_madeCells];omega
  have O:(List.replicate n z.toList).flatten[j]? =ϋ:=by rw[K5,DN _ H,List.length_replicate];omega
  rw[N];exact O.symm
def xQ (cur:List Value) (o:Nat) (vs:List Value):List Value:=cur.take o++vs++cur.drop (o+vs.length)
def JO: ∀(css:List (List Value)) (k:Nat) (c:List Value),(∀d∈css,d.length=n)->c.length=n->k<css.length->xQ css.flatten (k* n) c=(css.set k c).flatten
 | [],_,_,_,_,h=>ϩ h η
 | d::css,0,c,hl,hc,_=>by
  have G:=hl d η;unfold xQ;rw[M6,T6,I3,D8,C9,G1 τ,G8 τ,I3,List.set_cons_zero,C9]
 | d::css,k+1,c,hl,hc,hk=>by
  have G:=hl d η;have H:=JO css k c (λe J=>hl e (by simp[J])) hc (by simpa using hk);unfold xQ at H ⊢;rw[List.set_cons_succ,C9,C9,<-H];have I:(k+1)* n=d.length+k* n:=by rw[G,G0];omega
  rw[I,List.take_length_add_append,M0,List.drop_length_add_append];simp
def xy {t:Nat} (h:w.heap[g]? =ϊ (.cells cs.toArray t (0,0))):w.rangeAt g 0 cs:=λj v d=>by
 rw[cell_of_row w g (0+j) cs.toArray t (0,0) h,D8,A5];exact d
section
variable {P:Program} {C:World->Prop}
def jh {l:List Oper} {T:Nat} {Q:Act->World->Prop} {k:Nat} {o:Oper} {rest:List (Nat×Bool)} (U:l[k]? =ϊ o) (H:Region.wanted o (yielded l.toArray a.tmps)=ό) (J:C w)
  (d:TypeId) (x:Operand) (Y:o.op= .load d x) (b I:Nat) (ab:a.eval x= π (ϊ ⟨b,I,ϋ⟩)) (cs:List Value) (G:TypeDesc) (N: ∀w,C w->w.rangeAt b I cs)
  (aa:P.underlying d=ϊ G) (O:G.isRow=ό) (hi:(P.info? d).map (·.size)=ϊ cs.length)
  (h: ∀K:Act->Prop,(∀a,zU P l T C Q rest a w->K a)->K (a.put o.dst (θ cs.toArray))):zU P l T C Q ((k,ύ)::rest) a w:=
 qE U H J λK M=>⟨θ cs.toArray,λw H=>by
  unfold Oper.quietAt execOp;simp only[Y,ab,Instr.loadAt,Instr.sureAddr,Sem.run_bind,Sem.run_pure,Result.andThen_ok,run_loadVar_mid w b I d cs G (N w H) aa O hi]
  exact⟨rfl,rfl⟩,h K M⟩
def YT (G:TypeId) (g d:Nat) (e:TypeId) (cur:Array Value) (cs:List Value) (M:w.heap[g]? =ϊ (.cells cur e (0,0))) (J:d+cs.length<=cur.size)
  (hi:(P.info? G).map (·.size)=ϊ cs.length) (I: ∀u∈cs,u.oneCell'=ό):
  (Instr.storeAt G (π (ϊ ⟨g,d,ϋ⟩)) (θ cs.toArray)).run P w= .ok () (w.setRow g (xQ cur.toList d cs).toArray):=by
 have H:=run_storeCells_at P g d e cs 0 cur w M (by simpa using J) I;cases hq:P.info? G with
 | none=>simp[hq] at hi
 | some i=>
  have N:cs.length=i.size:=by simp[hq] at hi;omega
  simp only[G7] at H;unfold xQ;simp[Instr.storeAt,Instr.sureAddr,storeVar,sizeOf,typeInfo,hq,Value.cells,N,H]
def zF {o:Oper} (G:TypeId) (x y:Operand) (M:o.op= .store G x y) (g d:Nat) (e:TypeId) (cur:Array Value) (cs:List Value)
  (N:a.eval x= π (ϊ ⟨g,d,ϋ⟩)) (O:a.eval y= θ cs.toArray) (J:w.heap[g]? =ϊ (.cells cur e (0,0))) (I:d+cs.length<=cur.size) (hi:(P.info? G).map (·.size)=ϊ cs.length) (H: ∀u∈cs,u.oneCell'=ό)
  (h:C (w.setRow g (xQ cur.toList d cs).toArray)/\K (a.put o.dst undef) (w.setRow g (xQ cur.toList d cs).toArray)):jn P C o a w K:=by
 unfold jn execOp;simp only[M,N,O,Sem.run_bind,Sem.run_pure,Result.andThen_ok,YT G g d e cur cs J I hi H];exact h
def jr {o:Oper} (G:TypeId) (x y:Operand) (J:o.op= .store G x y) (g:Nat) (e:TypeId) (c d:Array Value)
  (N:a.eval x= γ g) (O:a.eval y= θ d) (I:w.heap[g]? =ϊ (.cells c e (0,0))) (hi:(P.info? G).map (·.size)=ϊ d.size) (M:c.size=d.size) (H:d.all (·.oneCell')=ό)
  (h:C (w.setRow g d)/\K (a.put o.dst undef) (w.setRow g d)):jn P C o a w K:=by
 unfold jn execOp;simp only[J,N,O,Instr.storeAt,Instr.sureAddr,Sem.run_bind,Sem.run_pure,Result.andThen_ok,run_storeVar_row w g e G c d I hi M H];exact h
def xW {o:Oper} (M:o.guard=ϋ) (G:TypeId) (x y:Operand) (N:o.op= .store G x y)
  (g:Nat) (t:TypeId) (c d:Array Value) (J:w.heap[g]? =ϊ (.cells c t (0,0))) (U:a.eval x= γ g) (Y:a.eval y= θ d)
  (hi:(P.info? G).map (·.size)=ϊ d.size) (O:c.size=d.size) (H:d.all (·.oneCell')=ό)
  (h:wpList P ops Q rest (a.put o.dst undef) (w.setRow g d)):wpList P ops Q (o::rest) a w:=by
 refine wpList_plain M λK I=> ?_
 unfold Oper.wp execOp;simp only[N,U,Y,Instr.storeAt,Instr.sureAddr,Sem.run_bind,Sem.run_pure,Result.andThen_ok,run_storeVar_row w g t G c d J hi O H];exact I _ _ h
def yL {o:Oper} (p:Op) (_:o.op=p) (h:wpList P ops Q (o::rest) a w):wpList P ops Q (o::rest) a w:=h
def vO {o:Oper} (M:o.guard=ϋ) (d:TypeId) (x:Operand) (N:o.op= .load d x)
  (g:Nat) (t:TypeId) (c:Array Value) (G:TypeDesc) (J:w.heap[g]? =ϊ (.cells c t (0,0))) (U:a.eval x= γ g)
  (O:P.underlying d=ϊ G) (I:G.isRow=ό) (hi:(P.info? d).map (·.size)=ϊ c.size)
  (h:wpList P ops Q rest (a.put o.dst (θ c)) w):wpList P ops Q (o::rest) a w:=by
 have H:w.rangeAt g 0 c.toList:=by
  have:=World.rangeAt_of_block J 0 c.size;rw[D8,Array.extract_size] at this;exact this
 have:=wpList_load_mid (P:=P) (ops:=ops) (rest:=rest) (op:=o) (a:=a) (w:=w) (Q:=Q) M d x N g 0 U c.toList G H O I (by rw[hi];simp);simp only[Array.toArray_toList] at this;exact this h
def kW (w:World) (t Y e:TypeId) (z:Value) (d:List Value) (M:P.underlying t=ϊ (.slice e)) (N: ∀w,(zeroValue e).run P w= .ok z w) (O:(Builtin.zeroCells z.cells 1).toList=d) (g o c:Nat) (cur:Array Value) (J:w.heap[g]? =ϊ (.cells cur e (0,0)))
  (I:o+d.length<=cur.size) (H: ∀v∈d,v.oneCell'=ό):
  (Builtin.clear_ #[t] Y #[δ (ϊ ⟨g,o,ϋ⟩) 1 c]).run P w= .ok (.tuple #[]) (w.setRow g (xQ cur.toList o d).toArray):=by
 have U:Builtin.zeroCells z.cells 1=d.toArray:=by
  rw[<-O]
 have G:=run_storeCells_at P g o e d 0 cur w J (by simpa using I) H;simp only[G7] at G;unfold xQ;simp[Builtin.clear_,run_underlying M,N w,U,G]
end
def jV (A room first q:Nat) (ci co cd cg:Int):Array Value:=
 #[.slice (ϊ ⟨A,0,ϋ⟩) room room,.int .i64 first,.int .i64 q,.bool ύ,.int .i64 ci,.int .i64 co,.int .i64 cd,.int .i64 cg]
structure qN (n tr te:Nat) (w:World) (R A room first:Nat) (q:List (List Value)) (ci co cd cg:Int) (css:List (List Value)):Prop where
 ring:w.heap[R]? =ϊ (.cells (jV A room first q.length ci co cd cg) tr (0,0))
 row:w.heap[A]? =ϊ (.cells css.flatten.toArray te (0,0))
 ne:R≠A
 len:css.length=room
 all: ∀c∈css,c.length=n/\ ∀u∈c,u.oneCell'=ό
 pos:1<=room/\room<=8
 fst:first<room
 fits:q.length<=room
 holds: ∀i,i<q.length->css.getD ((first+i)%room) []=q.getD i []
def RgB (R A:Nat) (b:Nat):Prop:=b=R∨b=A
def Mb (first i room:Nat):((first+1)%room+i)%room=(first+(i+1))%room:=by
 rw[Nat.mod_add_mod];congr 1;omega
def DO {first i room:Nat} (h:first<room) (hi:i<room):(first+i)%room=if first+i<room then first+i else first+i-room:=by
 split
 ·exact Q1 (by assumption)
 ·rw[Nat.mod_eq_sub_mod τ,Q1 τ]
section
variable {n tr te:Nat} {w w':World} {R A room first:Nat} {q:List (List Value)} {ci co cd cg:Int} {css:List (List Value)}
def qN.away (h:qN n tr te w R A room first q ci co cd cg css) (a:jt S w w') (G: ¬S R) (d: ¬S A):qN n tr te w' R A room first q ci co cd cg css:=
 {h with ring:=a.blk h.ring G,row:=a.blk h.row d}
def qN.more (h:qN n tr te w R A room first q ci co cd cg css) (m:ql w w'):qN n tr te w' R A room first q ci co cd cg css:=
 {h with ring:=qq m h.ring,row:=qq m h.row}
def qN.ctr (h:qN n tr te w R A room first q ci co cd cg css) (i:Nat) (v:Value) {H I d G:Int} (e:(jV A room first q.length ci co cd cg).setIfInBounds i v=jV A room first q.length H I d G):qN n tr te (w.setCell ⟨R,i,ϋ⟩ v) R A room first q H I d G css:=
 {h with ring:=qB (qp h.ring i v) e,row:=qo h.row _ _ (C0 h.ne)}
def qN.popped (h:qN n tr te w R A room first q ci co cd cg css) (v:Int):qN n tr te (w.setCell ⟨R,5,ϋ⟩ (ι v)) R A room first q ci v cd cg css:=h.ctr 5 _ rfl
def qN.dropped (h:qN n tr te w R A room first q ci co cd cg css) (v:Int):qN n tr te (w.setCell ⟨R,6,ϋ⟩ (ι v)) R A room first q ci co v cg css:=h.ctr 6 _ rfl
def qN.drained (h:qN n tr te w R A room first q ci co cd cg css) (v:Int):qN n tr te (w.setCell ⟨R,7,ϋ⟩ (ι v)) R A room first q ci co cd v css:=h.ctr 7 _ rfl
def yo {P:Program} {p u:Tmp} {d:TypeId} (h:I.results= #[.cell p d,.tmp u]) (tmps:Array Value) (w:World) (g:Nat) (t:TypeId) (cs:Array Value) (G:TypeDesc) (H:Value)
  (N:tmps.getD p undef= γ g) (U:tmps.getD u undef=H) (M:w.heap[g]? =ϊ (.cells cs t (0,0)))
  (aa:P.underlying d=ϊ G) (J:(match G with | .struct _ | .array _ _=>ό | _=>ύ)=ό) (hi:(P.info? d).map (·.size)=ϊ cs.size):
  (results I tmps).run P w= .ok (.tuple #[θ cs,H]) w:=by
 have O:tmps[p]?.getD undef= γ g:=by simpa using N
 have Y:tmps[u]?.getD undef=H:=by simpa using U
 simp[results,h,O,Y,asAddr,run_loadVar_row w g t d cs (0,0) G M aa J hi]
def KW {P:Program} {p u s:Tmp} {d:TypeId} (h:I.results= #[.cell p d,.tmp u,.tmp s]) (tmps:Array Value) (w:World) (g:Nat) (t:TypeId) (cs:Array Value) (G:TypeDesc) (H v3:Value)
  (N:tmps.getD p undef= γ g) (U:tmps.getD u undef=H) (aa:tmps.getD s undef=v3) (M:w.heap[g]? =ϊ (.cells cs t (0,0)))
  (ac:P.underlying d=ϊ G) (J:(match G with | .struct _ | .array _ _=>ό | _=>ύ)=ό) (hi:(P.info? d).map (·.size)=ϊ cs.size):
  (results I tmps).run P w= .ok (.tuple #[θ cs,H,v3]) w:=by
 have O:tmps[p]?.getD undef= γ g:=by simpa using N
 have Y:tmps[u]?.getD undef=H:=by simpa using U
 have ab:tmps[s]?.getD undef=v3:=by simpa using aa
 simp[results,h,O,Y,ab,asAddr,run_loadVar_row w g t d cs (0,0) G M ac J hi]
def qN.cl (h:qN n tr te w R A room first q ci co cd cg css): ∀c∈css,c.length=n:=λc d=>(h.all c d).1
def qN.size (h:qN n tr te w R A room first q ci co cd cg css):css.flatten.toArray.size=room* n:=by rw[G5,DN css h.cl,h.len]
def qN.range (h:qN n tr te w R A room first q ci co cd cg css) {k:Nat} (J:k<room):w.rangeAt A (k* n) (css.getD k []):=λj v G=>by
 have d:k<css.length:=by rw[h.len];exact J
 have H:(css.getD k []).length=n:=by
  rw[ϑ,ϖ d];exact h.cl _ (ϛ d)
 have I:j<n:=by rw[<-H];exact(Ϛ.1 G).1
 rw[cell_of_row w A (k* n+j) css.flatten.toArray te (0,0) h.row,A5,Wr css k j h.cl d I];exact G
def qN.head (h:qN n tr te w R A room first (c::T) ci co cd cg css):css.getD first []=c:=by
 have:=h.holds 0 η;rw[G7,Q1 h.fst] at this;exact this
def qN.ofHead (h:qN n tr te w R A room first (c::T) ci co cd cg css):c.length=n/\ ∀u∈c,u.oneCell'=ό:=by
 rw[<-h.head];have d:first<css.length:=by rw[h.len];exact h.fst
 rw[ϑ,ϖ d];exact h.all _ (ϛ d)
def qN.qall (h:qN n tr te w R A room first q ci co cd cg css): ∀c∈q,c.length=n/\ ∀u∈c,u.oneCell'=ό:=λc G=>by
 obtain⟨i,hi,rfl⟩:=A4.1 G;have:=h.holds i hi;rw[ϑ,ϑ,ϖ hi,ϥ] at this;rw[<-this];have d:(first+i)%room<css.length:=by rw[h.len];exact I6 _ (by have:=h.pos;omega)
 rw[ϖ d];exact h.all _ (ϛ d)
def WH {p:List Value->Prop} {k:Nat} (h: ∀c∈css,p c) (G:p z): ∀c∈css.set k z,p c:=λc d=>by
 rcases List.mem_or_eq_of_mem_set d with h1 | rfl
 ·exact h c h1
 ·exact G
def qN.took (h:qN n tr te w R A room first (c::T) ci co cd cg css) (aa:z.length=n/\ ∀u∈z,u.oneCell'=ό) {H I d G:Int}
  (U:w'.heap[R]? =ϊ (.cells (jV A room ((first+1)%room) T.length H I d G) tr (0,0))) (Y:w'.heap[A]? =ϊ (.cells (css.set first z).flatten.toArray te (0,0))):qN n tr te w' R A room ((first+1)%room) T H I d G (css.set first z):=by
 have M:=h.fits;simp at M;refine⟨U,Y,h.ne,by rw[List.length_set];exact h.len,WH h.all aa,h.pos,I6 _ (by have:=h.pos;omega),τ,λi hi=> ?_⟩;rw[Mb];have O:=h.holds (i+1) (by simp;omega);have J:=h.fst;have N:(first+(i+1))%room≠first:=by
  intro e;rw[DO J τ] at e;split at e<;>omega
 rw[ϑ,I5 (C0 N),<-ϑ,O];rfl
def qN.put (h:qN n tr te w R A room first q ci co cd cg css) (U:q.length<room) (N:c.length=n/\ ∀u∈c,u.oneCell'=ό) {I J G H:Int}
  (Y:w'.heap[R]? =ϊ (.cells (jV A room first (q.length+1) I J G H) tr (0,0))) (aa:w'.heap[A]? =ϊ (.cells (css.set ((first+q.length)%room) c).flatten.toArray te (0,0))):qN n tr te w' R A room first (q++[c]) I J G H (css.set ((first+q.length)%room) c):=by
 refine⟨by simpa using Y,aa,h.ne,by rw[List.length_set];exact h.len,WH h.all N,h.pos,h.fst,by simp;omega,λi hi=> ?_⟩;have M:=h.fst;simp at hi;by_cases e:i=q.length
 ·subst e;rw[ϑ,Q4 (by rw[h.len];exact I6 _ τ)];simp
 ·have O:(first+i)%room≠(first+q.length)%room:=by
   intro d;rw[DO M τ,DO M U] at d;split at d<;>split at d<;>omega
  rw[ϑ,I5 (C0 O),<-ϑ,h.holds i τ];simp only[ϑ];rw[ϻ τ]
end
def Wt (zs:List Value) (first room:Nat) (q0 css:List (List Value)) (cd:Int):Bool->List Value->Nat->List (List Value)->Int->List (List Value)->Prop
 | false,old,f,q,cd',cs=>old=zs/\f=first/\q=q0/\cd'=cd/\cs=css
 | true,old,f,q,_,cs=>q0=old::q/\f=(first+1)%room/\cs=css.set first zs
def jj (n:Int):Bool:=decide (0<=n/\n<3)
def Ψ1 (h:P:=by
 have G:Hid (jj n=decide (0<=n/\n<3)):=κ rfl;by_cases h1:0<=n
 ·by_cases h2:n<3
  ·have d:jj n=ό:=by rw[G.o];simp[h1,h2]
   rw[d]
   go_enter Ξa,Ξb
   go_wp2
   all_goals (go_ret;first | exact⟨rfl,rfl⟩ | omega)
  ·have d:jj n=ύ:=by rw[G.o];simp[h2]
   rw[d]
   go_enter Ξa,Ξb
   go_wp2
   all_goals (go_ret;first | exact⟨rfl,rfl⟩ | omega)
 ·have d:jj n=ύ:=by rw[G.o];simp[h1]
  rw[d]
  go_enter Ξa,Ξb
  go_wp2
  all_goals (go_ret;first | exact⟨rfl,rfl⟩ | omega)):P:=h
section
open _root_.Go.Proofs.Tryz renaming func207->Ξa,ntmps207->Ξb
def YQ (n:Int) (w:World):Calls prog 207 #[ι n] w λe w'=>e= .returned (μ (jj n))/\w'=w:=Ψ1
end
section
open _root_.Go.Proofs.Tryz renaming func151->Ξa,ntmps151->Ξb
def xX (n:Int) (w:World):Calls prog 151 #[ι n] w λe w'=>e= .returned (μ (jj n))/\w'=w:=Ψ1
end
def QT (c t n:Int) (d:jj n=ό) (w:World):Calls prog 152 #[θ #[ι c,ι t],ι n] w λe w'=>e= .returned (.tuple #[θ #[ι c,ι n],ι 0])/\ql w w':=by
 have G:=κ d;clear d
 go_enter func152,ntmps152
 go_wp2_with (first | (go_at_call 207;((with_reducible refine(YQ n _).mono ?_);rintro e w1 ⟨rfl,rfl⟩;rw[G.o])))
 refine bodyPost_ret (v:= .tuple #[θ #[ι c,ι n],ι 0]) (by simp[results,results152,go_sem]) rfl ?_;exact⟨rfl,ρ⟩
def YS (n:Int) (H:jj n=ό) (w:World):Calls prog 153 #[ι n] w λe w'=>e= .returned (.tuple #[θ #[ι (-1),ι n],ι 0])/\ql w w':=by
 have I:=κ H;clear H
 go_enter func153,ntmps153
 go_wp2_with (first | (go_at_call 152;(go_call QT (-1) 0 n I.o _ as e w1 ⟨rfl,d⟩;have G:Hid (w1.heap[w.heap.size]? =ϊ (.cells #[ι 0,ι 0] 103 (0,0))):=κ (qq d (qj _ _));have J:=κ (W4.trans d);clear d)) | (refine yL (.store 103 (.tmp 2) (.tmp 7)) rfl ?_;refine xW rfl 103 (.tmp 2) (.tmp 7) rfl w.heap.size 103 _ #[ι (-1),ι n] G.o rfl rfl ξ rfl (all_oneCell_toArray W5) ?_))
 refine bodyPost_ret (v:= .tuple #[θ #[ι (-1),ι n],ι 0]) (yo results153 _ _ w.heap.size 103 #[ι (-1),ι n] _ _ rfl rfl (jY G.o _) underlying103 rfl ξ) rfl ?_;exact⟨rfl,(EC _ _ _).to_more J.o (λk e=>by rw[e];exact ϕ _)⟩
def Uo (c t n:Int) (k:Bool) (d:(n==c)=ό) (G:(n != c)=ύ) (w:World):Calls prog 198 #[θ #[ι c,ι t],ι n,k] w λe w'=>e= .returned (.tuple #[θ #[ι c,ι t],ι 0,ύ])/\ql w w':=by
 go_enter func198,ntmps198
 go_wp2;refine bodyPost_ret (v:= .tuple #[θ #[ι c,ι t],ι 0,ύ]) (by simp[results,results198,go_sem]) rfl ?_;exact⟨rfl,ρ⟩
def Up (c t n:Int) (k:Bool) (d:(n != c)=ό) (G:(n==t)=ό) (H:k=ό) (w:World):Calls prog 198 #[θ #[ι c,ι t],ι n,k] w λe w'=>e= .returned (.tuple #[θ #[ι n,ι t],ι 0,ό])/\ql w w':=by
 go_enter func198,ntmps198
 go_wp2;refine bodyPost_ret (v:= .tuple #[θ #[ι n,ι t],ι 0,ό]) (by simp[results,results198,go_sem]) rfl ?_;exact⟨rfl,ρ⟩
def V9 (c t n:Int) (k:Bool) (G:(n != c)=ό) (d:(n==c)=ύ) (H:(n==t)=ό) (I:k=ύ) (w:World):Calls prog 198 #[θ #[ι c,ι t],ι n,k] w λe w'=>e= .returned (.tuple #[θ #[ι c,ι t],ι 5,ύ])/\ql w w':=by
 go_enter func198,ntmps198
 go_wp2;refine bodyPost_ret (v:= .tuple #[θ #[ι c,ι t],ι 5,ύ]) (by simp[results,results198,go_sem]) rfl ?_;exact⟨rfl,ρ⟩
def AG (c t n:Int) (k:Bool) (G:(n != c)=ό) (d:(n==c)=ύ) (H:(n==t)=ύ) (w:World):Calls prog 198 #[θ #[ι c,ι t],ι n,k] w λe w'=>e= .returned (.tuple #[θ #[ι c,ι t],ι 4,ύ])/\ql w w':=by
 go_enter func198,ntmps198
 go_wp2;refine bodyPost_ret (v:= .tuple #[θ #[ι c,ι t],ι 4,ύ]) (by simp[results,results198,go_sem]) rfl ?_;exact⟨rfl,ρ⟩
def Ka (m:Int) (d:1<=m) (G:m<=10) (w:World):Calls prog 149 #[ι m] w λe w'=>e= .returned (.tuple #[θ #[ι m,ι 0,ύ],ι 0])/\ql w w':=by
 go_enter func149,ntmps149
 go_wp2;refine bodyPost_ret (v:= .tuple #[θ #[ι m,ι 0,ύ],ι 0]) (by simp[results,results149,go_sem]) rfl ?_;exact⟨rfl,ρ⟩
def Zf (s q t:Int) (w:World):Calls prog 150 #[ω s,φ q,ω t] w λe w'=>e= .returned (θ #[ω s,φ q,ω t,ύ,ω 0,ω 0])/\ql w w':=by
 go_enter func150,ntmps150
 go_wp2;refine bodyPost_ret (v:= θ #[ω s,φ q,ω t,ύ,ω 0,ω 0]) (by simp[results,results150,go_sem]) rfl ?_;exact⟨rfl,ρ⟩
def XP (m r:Int) (g:Bool) (w:World):Calls prog 234 #[θ #[ι m,ι r,g]] w λe w'=>e= .returned (θ #[ι m,ι 0,g])/\ql w w':=by
 go_enter func234,ntmps234
 go_wp2;refine bodyPost_ret (v:= θ #[ι m,ι 0,g]) (by simp[results,results234,go_sem]) rfl ?_;exact⟨rfl,ρ⟩
def Zg (m r:Int) (g:Bool) (d:0<=r) (G:r<=10) (w:World):Calls prog 233 #[θ #[ι m,ι r,g]] w λe w'=>e= .returned (θ #[ι m,ι (r+1),(r+1==m)])/\ql w w':=by
 go_enter func233,ntmps233
 go_wp2;refine bodyPost_ret (v:= θ #[ι m,ι (r+1),(r+1==m)]) (by simp[results,results233,go_sem]) rfl ?_;exact⟨rfl,ρ⟩
def UL (m r:Int) (a:Bool) (w:World):Calls prog 176 #[θ #[ι m,ι r,ό],a] w λe w'=>e= .returned (.tuple #[θ #[ι m,ι r,ό],ύ])/\ql w w':=by
 go_enter func176,ntmps176
 go_wp2;refine bodyPost_ret (v:= .tuple #[θ #[ι m,ι r,ό],ύ]) (by simp[results,results176,go_sem]) rfl ?_;exact⟨rfl,ρ⟩
def Pj (m r:Int) (w:World):Calls prog 176 #[θ #[ι m,ι r,ύ],ό] w λe w'=>e= .returned (.tuple #[θ #[ι m,ι 0,ύ],ύ])/\ql w w':=by
 have O:=κ (XP m r ύ)
 go_enter func176,ntmps176
 go_wp2_with (refine(O.o _).mono ?_;rintro e w1 ⟨rfl,J⟩;have H:Hid (w1.heap[w.heap.size+1]? =ϊ (.cells #[ι 0,ι 0,ύ] 151 (0,0))):=κ (qq J (qC η));have N:Hid (ql w w1):=κ ((W4.al _).trans J);clear J)
 obtain⟨W1,G⟩:=ν (w1.alloc (.cells #[ι m,ι 0,ύ] 151));have Y:Hid (ql w W1):=κ (by rw[<-G];exact N.o.al _);have M:Hid (W1.heap[w.heap.size+1]? =ϊ (.cells #[ι 0,ι 0,ύ] 151 (0,0))):=κ (by rw[<-G];exact qs H.o _);have I:Hid (W1.heap[w1.heap.size]? =ϊ (.cells #[ι m,ι 0,ύ] 151 (0,0))):=κ (by rw[<-G];exact qj w1 _);rw[G];clear G N;have U: ∀x:qz (λb=>b=w.heap.size+1) W1,x.w'.rangeAt w1.heap.size 0 [ι m,ι 0,ύ]:=λx=>xy (x.h.blk I.o (by have:=qn H.o;omega))
 have ab: ∀x:qz (λb=>b=w.heap.size+1) W1,x.w'.cell? ⟨w1.heap.size,2,ϋ⟩=ϊ (μ ύ):=λx=>x.cell (qn I.o) (by have:=qn H.o;omega) (qm I.o 2 rfl)
 clear H;refine QN (λb=>b=w.heap.size+1) W1 4 5 [3,4] ?_;refine jh rfl rfl (qi σ) 151 (.tmp 7) rfl w1.heap.size 0 rfl [ι m,ι 0,ύ] _ (λw' aa=>by obtain⟨x,rfl⟩:=aa;exact U x) underlying151 rfl ξ ?_;intro K d;go_simp;refine d _ ?_;clear d K
 refine Qs2 ?_
 refine jR rfl rfl ?_;intro K d;refine jr 151 (.tmp 4) (.tmp 18) rfl (w.heap.size+1) 151 _ #[ι m,ι 0,ύ] rfl rfl (qr M.o 1) ξ rfl (all_oneCell_toArray W5) ?_;refine⟨qi (((jt.refl (λb=>b=w.heap.size+1) W1).drewN 1).row (g:=w.heap.size+1) rfl _), ?_⟩;go_simp;refine d _ _ ?_;clear d K
 (refine Qe ?_;intro K d)
 refine d _ _ ?_;clear d K;refine qA ?_;go_wp2;refine bodyPost_ret (v:= .tuple #[θ #[ι m,ι 0,ύ],ύ]) (yo results176 _ _ (w.heap.size+1) 151 #[ι m,ι 0,ύ] _ _ rfl rfl (jY (qr M.o 1) _) underlying151 rfl ξ) rfl ?_;exact⟨rfl,(EC _ _ _).to_more (Y.o.dr 1) (λk e=>by rw[e];exact J5 _)⟩
def BD (m r:Int) (ac:0<=r) (ad:r<=10) (q:Int) (b:Bool) (Y:r+1=q) (U:(q==m)=b) (w:World):Calls prog 176 #[θ #[ι m,ι r,ύ],ύ] w λe w'=>e= .returned (.tuple #[θ #[ι m,ι q,b],b])/\ql w w':=by
 have I:=Zg m r ύ ac ad;rw[Y,U] at I;have I:=κ I;clear Y U
 go_enter func176,ntmps176
 go_wp2_with (refine(I.o _).mono ?_;rintro e w1 ⟨rfl,M⟩;have H:Hid (w1.heap[w.heap.size+1]? =ϊ (.cells #[ι 0,ι 0,ύ] 151 (0,0))):=κ (qq M (qC η));have O:Hid (ql w w1):=κ ((W4.al _).trans M);clear M)
 obtain⟨W1,G⟩:=ν (w1.alloc (.cells #[ι m,ι q,b] 151));have ab:Hid (ql w W1):=κ (by rw[<-G];exact O.o.al _);have N:Hid (W1.heap[w.heap.size+1]? =ϊ (.cells #[ι 0,ι 0,ύ] 151 (0,0))):=κ (by rw[<-G];exact qs H.o _);have J:Hid (W1.heap[w1.heap.size]? =ϊ (.cells #[ι m,ι q,b] 151 (0,0))):=κ (by rw[<-G];exact qj w1 _);rw[G];clear G O;have aa: ∀x:qz (λb=>b=w.heap.size+1) W1,x.w'.rangeAt w1.heap.size 0 [ι m,ι q,b]:=λx=>xy (x.h.blk J.o (by have:=qn H.o;omega))
 have af: ∀x:qz (λb=>b=w.heap.size+1) W1,x.w'.cell? ⟨w1.heap.size,2,ϋ⟩=ϊ (μ b):=λx=>x.cell (qn J.o) (by have:=qn H.o;omega) (qm J.o 2 rfl)
 clear H;refine QN (λb=>b=w.heap.size+1) W1 4 5 [3,4] ?_;refine jh rfl rfl (qi σ) 151 (.tmp 7) rfl w1.heap.size 0 rfl [ι m,ι q,b] _ (λw' ae=>by obtain⟨x,rfl⟩:=ae;exact aa x) underlying151 rfl ξ ?_;intro K d;go_simp;refine d _ ?_;clear d K
 refine Qs2 ?_
 refine jR rfl rfl ?_;intro K d;refine jr 151 (.tmp 4) (.tmp 18) rfl (w.heap.size+1) 151 _ #[ι m,ι q,b] rfl rfl (qr N.o 1) ξ rfl (all_oneCell_toArray W5) ?_;refine⟨qi (((jt.refl (λb=>b=w.heap.size+1) W1).drewN 1).row (g:=w.heap.size+1) rfl _), ?_⟩;go_simp;refine d _ _ ?_;clear d K
 (refine Qe ?_;intro K d)
 refine d _ _ ?_;clear d K;refine qA ?_;go_wp2;refine bodyPost_ret (v:= .tuple #[θ #[ι m,ι q,b],b]) (yo results176 _ _ (w.heap.size+1) 151 #[ι m,ι q,b] _ _ rfl rfl (jY (qr N.o 1) _) underlying151 rfl ξ) rfl ?_;exact⟨rfl,(EC _ _ _).to_more (ab.o.dr 1) (λk e=>by rw[e];exact J5 _)⟩
end Go.Proofs.YtlmllmonabafjaaGreatDoor
