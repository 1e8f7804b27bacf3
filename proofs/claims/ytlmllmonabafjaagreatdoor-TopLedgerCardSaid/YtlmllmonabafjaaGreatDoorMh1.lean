/- x -/
import Derived.Test.YtlmllmonabafjaaGreatDoorMh0
import Derived.Handy
import Derived.Test.YtlmllmonabafjaaGreatDoorRows
import Derived.Maps.AppendAt
import Derived.Lib.LazyBuf
import Derived.ProofKit
import Derived.OpenShut
import Derived.Lib.SmallJoins
import Derived.Deep.Slices
import Derived.Deep.Fields
import Derived.IntWalk
import Derived.Deep.Cut
import Derived.Deep.CutRange
import Derived.Deep.CutBlock
import Derived.Laws.CopyRow
import Derived.Laws.Rows
import Derived.Laws.Tables
import Derived.Laws.MakeOwn
import Derived.Deep.MidRow
namespace Go.Proofs.YtlmllmonabafjaaGreatDoor
open Go.Value renaming bool->μ,slice->δ,pointer->π,agg->θ
open Go.IntKind renaming i64->ι,u8->υ,u16->φ,u32->ω,i32->χ,u64->ψ
set_option linter.all false
open Go.RowKit
set_option maxRecDepth 100000
open Option renaming some->ϊ,none->ϋ
open Bool renaming true->ό,false->ύ
open _root_.Go.Proofs.Tryz
set_option maxHeartbeats 8000000
variable {w w':World} {l L:List Int} {C D S:Nat->Prop} {v:Value} {Q:Exit->Act->World->Prop} {P p:Prop} {α:Type} {R n W base b g cap B:Nat} {e:Int} {a:Act} {xs c z cs:List Value} {ops:Array Oper} {K:Act->World->Prop} {k:IntKind} {rest:List Oper} {T css:List (List Value)} {H d:Option Addr} {J:Func}
def τ (h:P:=by omega):P:=h
def ξ (h:P:=by kernel_rfl):P:=h
def ζ (h:P:=by decide):P:=h
def η (h:P:=by simp):P:=h
def κ (h:p):RowKit.Hid p:=h
def ν {α : Sort _} (a : α) : ∃ x, a = x := ⟨_, rfl⟩
def ρ (h : ql w w' := by repeat (first | exact ql.refl _ | assumption | refine ql.dr ?_ _ | refine ql.al ?_ _ | refine ql.st ?_ (by simp) _)) : ql w w' := h
def σ {S : Nat → Prop} (h : jt S w w' := by repeat (first | exact jt.refl _ _ | assumption | refine jt.drewN ?_ _ | refine jt.set ?_ (by first | rfl | exact Or.inl rfl | exact Or.inr rfl) _)) : jt S w w' := h
def _root_.Go.RowKit.Hid.o (h : RowKit.Hid p) : p := h
section
variable {w:World} {b t:Nat} {c:List Value} {A B C D E F G H I J K L M N O P Q R S U V:Value}
def β0 (h:w.heap[b]?=some (.cells (A::c).toArray t (0,0))):w.cell? ⟨b,0,none⟩=some A:=qm h 0 η
def β1 (h:w.heap[b]?=some (.cells (A::B::c).toArray t (0,0))):w.cell? ⟨b,1,none⟩=some B:=qm h 1 η
def β2 (h:w.heap[b]?=some (.cells (A::B::C::c).toArray t (0,0))):w.cell? ⟨b,2,none⟩=some C:=qm h 2 η
def β3 (h:w.heap[b]?=some (.cells (A::B::C::D::c).toArray t (0,0))):w.cell? ⟨b,3,none⟩=some D:=qm h 3 η
def β4 (h:w.heap[b]?=some (.cells (A::B::C::D::E::c).toArray t (0,0))):w.cell? ⟨b,4,none⟩=some E:=qm h 4 η
def β5 (h:w.heap[b]?=some (.cells (A::B::C::D::E::F::c).toArray t (0,0))):w.cell? ⟨b,5,none⟩=some F:=qm h 5 η
def β6 (h:w.heap[b]?=some (.cells (A::B::C::D::E::F::G::c).toArray t (0,0))):w.cell? ⟨b,6,none⟩=some G:=qm h 6 η
def β7 (h:w.heap[b]?=some (.cells (A::B::C::D::E::F::G::H::c).toArray t (0,0))):w.cell? ⟨b,7,none⟩=some H:=qm h 7 η
def β8 (h:w.heap[b]?=some (.cells (A::B::C::D::E::F::G::H::I::c).toArray t (0,0))):w.cell? ⟨b,8,none⟩=some I:=qm h 8 η
def β9 (h:w.heap[b]?=some (.cells (A::B::C::D::E::F::G::H::I::J::c).toArray t (0,0))):w.cell? ⟨b,9,none⟩=some J:=qm h 9 η
def β10 (h:w.heap[b]?=some (.cells (A::B::C::D::E::F::G::H::I::J::K::c).toArray t (0,0))):w.cell? ⟨b,10,none⟩=some K:=qm h 10 η
def β11 (h:w.heap[b]?=some (.cells (A::B::C::D::E::F::G::H::I::J::K::L::c).toArray t (0,0))):w.cell? ⟨b,11,none⟩=some L:=qm h 11 η
def β12 (h:w.heap[b]?=some (.cells (A::B::C::D::E::F::G::H::I::J::K::L::M::c).toArray t (0,0))):w.cell? ⟨b,12,none⟩=some M:=qm h 12 η
def β13 (h:w.heap[b]?=some (.cells (A::B::C::D::E::F::G::H::I::J::K::L::M::N::c).toArray t (0,0))):w.cell? ⟨b,13,none⟩=some N:=qm h 13 η
def β14 (h:w.heap[b]?=some (.cells (A::B::C::D::E::F::G::H::I::J::K::L::M::N::O::c).toArray t (0,0))):w.cell? ⟨b,14,none⟩=some O:=qm h 14 η
def β15 (h:w.heap[b]?=some (.cells (A::B::C::D::E::F::G::H::I::J::K::L::M::N::O::P::c).toArray t (0,0))):w.cell? ⟨b,15,none⟩=some P:=qm h 15 η
def β16 (h:w.heap[b]?=some (.cells (A::B::C::D::E::F::G::H::I::J::K::L::M::N::O::P::Q::c).toArray t (0,0))):w.cell? ⟨b,16,none⟩=some Q:=qm h 16 η
def β17 (h:w.heap[b]?=some (.cells (A::B::C::D::E::F::G::H::I::J::K::L::M::N::O::P::Q::R::c).toArray t (0,0))):w.cell? ⟨b,17,none⟩=some R:=qm h 17 η
def β18 (h:w.heap[b]?=some (.cells (A::B::C::D::E::F::G::H::I::J::K::L::M::N::O::P::Q::R::S::c).toArray t (0,0))):w.cell? ⟨b,18,none⟩=some S:=qm h 18 η
def β19 (h:w.heap[b]?=some (.cells (A::B::C::D::E::F::G::H::I::J::K::L::M::N::O::P::Q::R::S::U::c).toArray t (0,0))):w.cell? ⟨b,19,none⟩=some U:=qm h 19 η
def β20 (h:w.heap[b]?=some (.cells (A::B::C::D::E::F::G::H::I::J::K::L::M::N::O::P::Q::R::S::U::V::c).toArray t (0,0))):w.cell? ⟨b,20,none⟩=some V:=qm h 20 η
end
instance:CoeFun IntKind (λ_=>Int->Value):=⟨.int⟩
instance:Coe Bool Value:=⟨.bool⟩
instance:Coe Unit Value:=⟨λ_=>.slice none 0 0⟩
inductive Mm | o
def γ (b:Nat):Mm:=.o
instance (b:Nat):CoeDep Mm (γ b) Value:=⟨.pointer (some ⟨b,0,none⟩)⟩
def Γa:Mm:=.o
instance:CoeDep Mm Γa (List Value):=⟨[ι 0,ι 0,μ false,μ false,υ 0,φ 0,ω 0,ω 0,δ none 0 0,μ false,φ 0,δ none 0 0,δ none 0 0]⟩
instance:CoeDep Mm Γa (Array Value):=⟨(Γa:List Value).toArray⟩
instance:CoeDep Mm Γa Value:=⟨θ Γa⟩
def Γs:Mm:=.o
instance:CoeDep Mm Γs (List Value):=⟨[ι 0,δ none 0 0]⟩
instance:CoeDep Mm Γs (Array Value):=⟨(Γs:List Value).toArray⟩
instance:CoeDep Mm Γs Value:=⟨θ Γs⟩
def Γb:Mm:=.o
instance:CoeDep Mm Γb (List Value):=⟨[ι 0,ι 0,μ false,μ false,υ 0,φ 0,ω 0,ω 0,δ none 0 0,μ false,φ 0,δ none 0 0,δ none 0 0,μ false]⟩
instance:CoeDep Mm Γb (Array Value):=⟨(Γb:List Value).toArray⟩
instance:CoeDep Mm Γb Value:=⟨θ Γb⟩
def Γc:Mm:=.o
instance:CoeDep Mm Γc (List Value):=⟨[μ false,υ 0,φ 0,ω 0,ω 0,δ none 0 0,μ false,φ 0,δ none 0 0,δ none 0 0]⟩
instance:CoeDep Mm Γc (Array Value):=⟨(Γc:List Value).toArray⟩
instance:CoeDep Mm Γc Value:=⟨θ Γc⟩
def Γd:Mm:=.o
instance:CoeDep Mm Γd (List Value):=⟨[μ false,ω 0,ω 0,ω 0,ω 0,ω 0,ω 0,δ none 0 0]⟩
instance:CoeDep Mm Γd (Array Value):=⟨(Γd:List Value).toArray⟩
instance:CoeDep Mm Γd Value:=⟨θ Γd⟩
def Γe:Mm:=.o
instance:CoeDep Mm Γe (List Value):=⟨[ω 0,υ 0,χ 0,ω 0,ω 0,ω 0,ω 0]⟩
instance:CoeDep Mm Γe (Array Value):=⟨(Γe:List Value).toArray⟩
instance:CoeDep Mm Γe Value:=⟨θ Γe⟩
def Γf:Mm:=.o
instance:CoeDep Mm Γf (List Value):=⟨[ι 0,μ false,ω 0,ω 0,ω 0,ω 0,ω 0,ω 0,δ none 0 0,ι 0,ω 0,ω 0,δ none 0 0,δ none 0 0,υ 0,υ 0,δ none 0 0]⟩
instance:CoeDep Mm Γf (Array Value):=⟨(Γf:List Value).toArray⟩
instance:CoeDep Mm Γf Value:=⟨θ Γf⟩
def Γg:Mm:=.o
instance:CoeDep Mm Γg (List Value):=⟨[ι 0,ω 0,ω 0,δ none 0 0,δ none 0 0]⟩
instance:CoeDep Mm Γg (Array Value):=⟨(Γg:List Value).toArray⟩
instance:CoeDep Mm Γg Value:=⟨θ Γg⟩
def Qo:Nat->Nat->List Nat->List (Nat×Bool)
 | _,0,_=>[]
 | i,k+1,L=>(i,L.elem i)::Qo (i+1) k L
def Qn {P:Program} {id:Nat} {l:List Oper} (w0:World) (T k:Nat) (L:List Nat) {n:List (Nat×Bool)} (h:zU P l T (λw'=> ∃x:qt w0,w'=x.w') (Q .normal) n a (w.drewN 1)) (e:Qo 0 k L=n:=by simp[Qo];exact rfl) (hm:P.follows .mixedOrders=true:=by kernel_rfl) (hB:(Region.noSelect l.toArray&&JG .any l.toArray T n (Array.replicate l.length false)&&decide (n.length=l.length)&&n.all λx=>decide (x.1<l.length))=true:=by kernel_rfl):(Code.region id l.toArray true).wp P Q a w:=zC w0 T n hm hB h
def QN {P:Program} {id:Nat} {l:List Oper} (S:Nat->Prop) (w0:World) (T k:Nat) (L:List Nat) {n:List (Nat×Bool)} (h:zU P l T (λw'=> ∃x:qz S w0,w'=x.w') (Q .normal) n a (w.drewN 1)) (e:Qo 0 k L=n:=by simp[Qo];exact rfl) (hm:P.follows .mixedOrders=true:=by kernel_rfl) (hB:(Region.noSelect l.toArray&&JG .any l.toArray T n (Array.replicate l.length false)&&decide (n.length=l.length)&&n.all λx=>decide (x.1<l.length))=true:=by kernel_rfl):(Code.region id l.toArray true).wp P Q a w:=zp S w0 T n hm hB h
def Ql {Q:Prop} (k:Q) (h:(Unit->Q)->P:=by intro k;refine jR rfl rfl ?_;intro K hK;unfold jn;go_simp;revert K hK;exact k ()):P:=h (λ_=>k)
def Qe {Q:Prop} (k:Q) (h:(Unit->Q)->P:=by intro k;refine zY rfl rfl (by decide) ?_;intro K hK;unfold jn;go_simp;revert K hK;exact k ()):P:=h (λ_=>k)
def Qq1 {Q:Prop} (k:Q) (h:(Unit->Q)->P:=by intro k;(refine qE rfl rfl (qk ρ) ?_;intro K hK;go_big_quiet_op;go_big_quiet_on);exact k ()):P:=h (λ_=>k)
def Qq2 {Q:Prop} (k:Q) (h:(Unit->Q)->P:=by intro k;(iterate 2 (refine qE rfl rfl (qk ρ) ?_;intro K hK;go_big_quiet_op;go_big_quiet_on));exact k ()):P:=h (λ_=>k)
def Qq3 {Q:Prop} (k:Q) (h:(Unit->Q)->P:=by intro k;(iterate 3 (refine qE rfl rfl (qk ρ) ?_;intro K hK;go_big_quiet_op;go_big_quiet_on));exact k ()):P:=h (λ_=>k)
def Qq5 {Q:Prop} (k:Q) (h:(Unit->Q)->P:=by intro k;(iterate 5 (refine qE rfl rfl (qk ρ) ?_;intro K hK;go_big_quiet_op;go_big_quiet_on));exact k ()):P:=h (λ_=>k)
def Qq6 {Q:Prop} (k:Q) (h:(Unit->Q)->P:=by intro k;(iterate 6 (refine qE rfl rfl (qk ρ) ?_;intro K hK;go_big_quiet_op;go_big_quiet_on));exact k ()):P:=h (λ_=>k)
def Qq7 {Q:Prop} (k:Q) (h:(Unit->Q)->P:=by intro k;(iterate 7 (refine qE rfl rfl (qk ρ) ?_;intro K hK;go_big_quiet_op;go_big_quiet_on));exact k ()):P:=h (λ_=>k)
def Qq8 {Q:Prop} (k:Q) (h:(Unit->Q)->P:=by intro k;(iterate 8 (refine qE rfl rfl (qk ρ) ?_;intro K hK;go_big_quiet_op;go_big_quiet_on));exact k ()):P:=h (λ_=>k)
def Qq9 {Q:Prop} (k:Q) (h:(Unit->Q)->P:=by intro k;(iterate 9 (refine qE rfl rfl (qk ρ) ?_;intro K hK;go_big_quiet_op;go_big_quiet_on));exact k ()):P:=h (λ_=>k)
def NC {Q:Prop} (k:Q) (h:(Unit->Q)->P:=by intro k;(iterate 10 (refine qE rfl rfl (qk ρ) ?_;intro K hK;go_big_quiet_op;go_big_quiet_on));exact k ()):P:=h (λ_=>k)
def qaE {Q:Prop} (k:Q) (h:(Unit->Q)->P:=by intro k;(iterate 11 (refine qE rfl rfl (qk ρ) ?_;intro K hK;go_big_quiet_op;go_big_quiet_on));exact k ()):P:=h (λ_=>k)
def Qs {Q:Prop} (k:Q) (h:(Unit->Q)->P:=by intro k;(iterate 12 (refine qE rfl rfl (qk ρ) ?_;intro K hK;go_big_quiet_op;go_big_quiet_on));exact k ()):P:=h (λ_=>k)
def qaD {Q:Prop} (k:Q) (h:(Unit->Q)->P:=by intro k;(iterate 13 (refine qE rfl rfl (qk ρ) ?_;intro K hK;go_big_quiet_op;go_big_quiet_on));exact k ()):P:=h (λ_=>k)
def Ny {Q:Prop} (k:Q) (h:(Unit->Q)->P:=by intro k;(iterate 19 (refine qE rfl rfl (qk ρ) ?_;intro K hK;go_big_quiet_op;go_big_quiet_on));exact k ()):P:=h (λ_=>k)
def qaC {Q:Prop} (k:Q) (h:(Unit->Q)->P:=by intro k;(iterate 20 (refine qE rfl rfl (qk ρ) ?_;intro K hK;go_big_quiet_op;go_big_quiet_on));exact k ()):P:=h (λ_=>k)
def NA {Q:Prop} (k:Q) (h:(Unit->Q)->P:=by intro k;(iterate 21 (refine qE rfl rfl (qk ρ) ?_;intro K hK;go_big_quiet_op;go_big_quiet_on));exact k ()):P:=h (λ_=>k)
def Qs1 {Q:Prop} (k:Q) (h:(Unit->Q)->P:=by intro k;(refine qE rfl rfl (qi σ) ?_;intro K hK;go_big_quiet_op;go_big_quiet_on);exact k ()):P:=h (λ_=>k)
def Qs2 {Q:Prop} (k:Q) (h:(Unit->Q)->P:=by intro k;(iterate 2 (refine qE rfl rfl (qi σ) ?_;intro K hK;go_big_quiet_op;go_big_quiet_on));exact k ()):P:=h (λ_=>k)
def Qs3 {Q:Prop} (k:Q) (h:(Unit->Q)->P:=by intro k;(iterate 3 (refine qE rfl rfl (qi σ) ?_;intro K hK;go_big_quiet_op;go_big_quiet_on));exact k ()):P:=h (λ_=>k)
def Qs4 {Q:Prop} (k:Q) (h:(Unit->Q)->P:=by intro k;(iterate 4 (refine qE rfl rfl (qi σ) ?_;intro K hK;go_big_quiet_op;go_big_quiet_on));exact k ()):P:=h (λ_=>k)
def Qs5 {Q:Prop} (k:Q) (h:(Unit->Q)->P:=by intro k;(iterate 5 (refine qE rfl rfl (qi σ) ?_;intro K hK;go_big_quiet_op;go_big_quiet_on));exact k ()):P:=h (λ_=>k)
def Qs6 {Q:Prop} (k:Q) (h:(Unit->Q)->P:=by intro k;(iterate 6 (refine qE rfl rfl (qi σ) ?_;intro K hK;go_big_quiet_op;go_big_quiet_on));exact k ()):P:=h (λ_=>k)
def Qs7 {Q:Prop} (k:Q) (h:(Unit->Q)->P:=by intro k;(iterate 7 (refine qE rfl rfl (qi σ) ?_;intro K hK;go_big_quiet_op;go_big_quiet_on));exact k ()):P:=h (λ_=>k)
def Qs8 {Q:Prop} (k:Q) (h:(Unit->Q)->P:=by intro k;(iterate 8 (refine qE rfl rfl (qi σ) ?_;intro K hK;go_big_quiet_op;go_big_quiet_on));exact k ()):P:=h (λ_=>k)
def Qs9 {Q:Prop} (k:Q) (h:(Unit->Q)->P:=by intro k;(iterate 9 (refine qE rfl rfl (qi σ) ?_;intro K hK;go_big_quiet_op;go_big_quiet_on));exact k ()):P:=h (λ_=>k)
def Nx {Q:Prop} (k:Q) (h:(Unit->Q)->P:=by intro k;(iterate 10 (refine qE rfl rfl (qi σ) ?_;intro K hK;go_big_quiet_op;go_big_quiet_on));exact k ()):P:=h (λ_=>k)
def Nz {Q:Prop} (k:Q) (h:(Unit->Q)->P:=by intro k;(iterate 12 (refine qE rfl rfl (qi σ) ?_;intro K hK;go_big_quiet_op;go_big_quiet_on));exact k ()):P:=h (λ_=>k)
def NE {Q:Prop} (k:Q) (h:(Unit->Q)->P:=by intro k;(iterate 13 (refine qE rfl rfl (qi σ) ?_;intro K hK;go_big_quiet_op;go_big_quiet_on));exact k ()):P:=h (λ_=>k)
def Qq {Q:Prop} (k:Q) (h:(Unit->Q)->P:=by intro k;(iterate 14 (refine qE rfl rfl (qi σ) ?_;intro K hK;go_big_quiet_op;go_big_quiet_on));exact k ()):P:=h (λ_=>k)
def qaA {Q:Prop} (k:Q) (h:(Unit->Q)->P:=by intro k;(iterate 16 (refine qE rfl rfl (qi σ) ?_;intro K hK;go_big_quiet_op;go_big_quiet_on));exact k ()):P:=h (λ_=>k)
def qaz {Q:Prop} (k:Q) (h:(Unit->Q)->P:=by intro k;(iterate 17 (refine qE rfl rfl (qi σ) ?_;intro K hK;go_big_quiet_op;go_big_quiet_on));exact k ()):P:=h (λ_=>k)
def ND {Q:Prop} (k:Q) (h:(Unit->Q)->P:=by intro k;(iterate 19 (refine qE rfl rfl (qi σ) ?_;intro K hK;go_big_quiet_op;go_big_quiet_on));exact k ()):P:=h (λ_=>k)
def Ν2:Mm:=.o
instance:CoeDep Mm Ν2 Nat:=⟨2⟩
def Ν13:Mm:=.o
instance:CoeDep Mm Ν13 Nat:=⟨13⟩
def Ν14:Mm:=.o
instance:CoeDep Mm Ν14 Nat:=⟨14⟩
def Ν53:Mm:=.o
instance:CoeDep Mm Ν53 Nat:=⟨53⟩
def Ν56:Mm:=.o
instance:CoeDep Mm Ν56 Nat:=⟨56⟩
def Ν253:Mm:=.o
instance:CoeDep Mm Ν253 Nat:=⟨253⟩
def Ν255:Mm:=.o
instance:CoeDep Mm Ν255 Nat:=⟨255⟩
def Ν325:Mm:=.o
instance:CoeDep Mm Ν325 Nat:=⟨325⟩
def Ν327:Mm:=.o
instance:CoeDep Mm Ν327 Nat:=⟨327⟩
def Ν328:Mm:=.o
instance:CoeDep Mm Ν328 Nat:=⟨328⟩
def Ν330:Mm:=.o
instance:CoeDep Mm Ν330 Nat:=⟨330⟩
def Ν332:Mm:=.o
instance:CoeDep Mm Ν332 Nat:=⟨332⟩
def ώ:=@if_neg
def Ϗ:=@List.length_append
def ϐ:=@if_pos
def ϑ:=@Or.inl
def ϒ:=@List.getD_eq_getElem?_getD
def ϓ:=@List.mem_append_right
def ϔ:=@Nat.le_refl
def ϕ:=@Or.inr
def ϖ:=@List.getElem?_eq_getElem
def ϗ:=@Nat.lt_of_lt_of_le
def Ϙ:=@Nat.le_trans
def ϙ:=@List.length_cons
def Ϛ:=@of_decide_eq_true
def ϛ:=@List.mem_cons_self
def Ϟ:=@List.map_cons
def ϟ:=@List.getElem?_eq_some_iff
def Ϡ:=@List.length_take
def ϡ:=@List.getElem_mem
def Ϣ:=@List.length_drop
def ϣ:=@Option.getD_some
def Ϥ:=@List.eq_nil_of_length_eq_zero
def ϥ:=@Option.isSome_iff_exists
def Ϧ:=@List.Sublist.refl
def ϧ:=@List.length_nil
def Ϩ:=@decide_eq_false
def ϩ:=@absurd
def Ϫ:=@decide_eq_true
def ϫ:=@List.mem_cons_of_mem
def Ϭ:=@Bool.false_eq_true
def ϭ:=@List.append_assoc
def Ϯ:=@List.mem_cons
def ϯ:=@List.mem_append
def ϰ:=@List.mem_append_left
def ϱ:=@List.take_length
def ϵ:=@congrArg
def Ϻ:=@Int.eq_ofNat_of_zero_le
def ϻ:=@List.map_append
def Γ:=@List.getElem?_append_right
def Δ:=@Nat.zero_le
def Θ:=@List.getElem?_append_left
def Ξ:=@List.foldl_append
def Φ:=@List.take_succ_eq_append_getElem
def Ψ:=@Int.toNat_natCast
def Ω:=@Nat.le_add_right
def ε:=@List.append_nil
def ο:=@List.getElem?_take
def A0:=@List.mem_iff_getElem
def A4:=@List.getElem?_toArray
def A5:=@of_decide_eq_false
def A6:=@List.foldl_cons
def A7:=@if_true
def A8:=@Nat.mul_le_mul_right
def A9:=@List.take_add_one
def B3:=@decide_eq_true_eq
def B4:=@Bool.and_eq_true
def B6:=@List.take_append_drop
def B9:=@List.length_map
def C0:=@List.mem_singleton
def C1:=@List.length_pos_iff
def C2:=@if_false
def C3:=@Option.map_some
def C4:=@Ne.symm
def C6:=@Bool.eq_iff_iff
def C7:=@Prod.mk.injEq
def C8:=@Array.getElem?_setIfInBounds_ne
def C9:=@List.length_singleton
def D0:=@List.getElem?_drop
def D1:=@List.nodup_cons
def D2:=@List.perm_iff_count
def D3:=@List.length_filter_le
def D4:=@List.map_nil
def D5:=@List.flatten_cons
def D6:=@Nat.pow_le_pow_right
def D8:=@Int.tmod_eq_emod_of_nonneg
def E0:=@List.mem_map
def E8:=@List.count_append
def E9:=@Nat.zero_add
def F1:=@Nat.lt_succ_self
def F2:=@List.nodup_append
def F3:=@List.mem_range
def F5:=@Int.emod_eq_of_lt
def F8:=@List.drop_eq_getElem_cons
def G0:=@Array.getElem?_modify
def G1:=@Nat.add_zero
def G2:=@List.eq_of_mem_replicate
def G3:=@Bool.true_and
def G4:=@Nat.add_mul
def G5:=@List.drop_append_of_le_length
def G6:=@List.take_append_of_le_length
def G7:=@List.getElem?_map
def G8:=@Option.some.injEq
def G9:=@List.size_toArray
def I0:=@List.range_succ
def I1:=@List.mem_filter
def I2:=@List.map_congr_left
def I3:=@List.drop_eq_nil_of_le
def I4:=@List.all_eq_true
def I5:=@Int.natCast_emod
def I6:=@List.pairwise_cons
def I7:=@List.filter_append
def I8:=@List.getElem?_eq_none
def I9:=@Array.getElem?_eq_getElem
def J0:=@List.nil_append
def J1:=@List.count_cons
def J2:=@List.getElem?_set_ne
def J3:=@Nat.mod_lt
def J4:=@List.length_filterMap_le
def J5:=@List.getElem?_take_of_lt
def J6:=@Nat.le_mul_of_pos_right
def J7:=@List.getElem_map
def K0:=@List.length_eq_zero_iff
def K2:=@List.map_toArray
def K3:=@Bool.false_and
def K4:=@List.count_nil
def K5:=@Nat.le_succ
def K6:=@List.take_of_length_le
def K7:=@Int.lt_of_lt_of_le
def K8:=@List.filterMap_append
def K9:=@List.ext_getElem?
def M0:=@List.any_eq_false
def M2:=@List.filter_cons
def M3:=@List.getElem?_eq_none_iff
def M4:=@List.flatten_append
def M5:=@List.mem_map_of_mem
def M6:=@Array.length_toList
def M7:=@Nat.add_assoc
def M8:=@List.getElem_append_left
def M9:=@Option.some.inj
def N0:=@List.cons.injEq
def N1:=@Option.isSome_some
def N2:=@Option.map_eq_some_iff
def N3:=@Nat.zero_mul
def N4:=@List.nodup_nil
def N5:=@Bool.and_false
def N6:=@List.length_range
def O0:=@List.length_eq_one_iff
def O1:=@Nat.lt_irrefl
def O2:=@Nat.one_mul
def O3:=@Option.map_none
def O4:=@List.length_set
def O5:=@Array.getElem?_setIfInBounds
def O6:=@Array.toList_modify
def P0:=@List.flatMap_append
def P1:=@List.mergeSort_perm
def P2:=@List.map_map
def P4:=@And.intro
def P5:=@Int.tdiv_eq_ediv_of_nonneg
def P6:=@List.mem_filterMap
def P8:=@Int.emod_lt_of_pos
def P9:=@Classical.byContradiction
def Q1:=@Int.le_refl
def Q2:=@List.length_erase_of_mem
def Q3:=@List.sublist_append_left
def Q4:=@List.any_eq_true
def Q5:=@Nat.add_sub_cancel_left
def R0:=@Nat.mod_eq_of_lt
def R4:=@List.pairwise_mergeSort
def R5:=@List.not_mem_nil
def R8:=@List.getElem?_set_self
def S0:=@Nat.testBit_lt_two_pow
def S1:=@Nat.le_of_lt
def S2:=@Int.emod_nonneg
def S3:=@List.find?_some
def S5:=@Bool.or_eq_true
def T1:=@Nat.div_lt_iff_lt_mul
def T2:=@List.eraseIdx_sublist
def T3:=@Int.emod_add_mul_ediv
def T4:=@List.Pairwise.sublist
def T5:=@Array.getElem?_toList
def T6:=@List.take_left
def T7:=@List.drop_drop
def T8:=@List.drop_left
def T9:=@List.mem_erase_of_ne
def U1:=@Int.emod_emod_of_dvd
def U2:=@List.tail_cons
def V1:=@List.take_zero
def V4:=@List.take_take
def V5:=@Bool.or_eq_false_iff
def V6:=@Array.toList_filter
def W4:=@Array.toList_append
def W5:=@Int.toNat_of_nonneg
def X0:=@List.filter_sublist
def X1:=@Prod.ext
def X2:=@List.map_set
def X3:=@Nat.lt_or_ge
def X4:=@Nat.min_def
def X5:=@Nat.mul_one
def X6:=@true_and
def X8 {o:Obj}:ql w (w.alloc o):=ql.alloc _ _
def X9 (h:P:=by simp[Value.oneCell']):P:=h
def Y5 (h:P:=by rintro(e | e)<;>omega):P:=h
def ZP (a s:Int) (h:May a s) (w:World):
  Calls prog 285 #[ι a,ι s] w λe w'=>e= .returned (μ ό)/\w'=w:=by
 obtain⟨d,H,I,J⟩:=h
 go_enter func285,ntmps285
 go_wp2;go_ret;exact⟨rfl,rfl⟩
def BT (a s:Int) (H:I64 a) (I:I64 s) (h: ¬May a s) (w:World):
  Calls prog 285 #[ι a,ι s] w λe w'=>e= .returned (μ ύ)/\w'=w:=by
 obtain⟨J,M⟩:=H;obtain⟨N,O⟩:=I;have d:=κ h;clear h
 go_enter func285,ntmps285
 go_wp2
 all_goals
  go_ret;have h:=d.o;unfold May at h;exact⟨qZ (by first | rfl | (simp;omega)),rfl⟩
def Vw (s:Int) (d:0<=s) (H:s<=64) (w:World):
  Calls prog 286 #[ι s] w λe w'=>e= .returned (ψ (two s-1))/\w'=w:=by
 go_enter func286,ntmps286
 go_wp2;go_ret;exact⟨xV (EH s d H),rfl⟩
def QK (n:Int) (a s:Int) (H:U64 n) (h:May a s) (w:World):
  Calls prog 254 #[ψ n,ι a,ι s] w λe w'=>e= .returned (ψ (fld n a s))/\ ∃k,w'=w.drewN k:=by
 have J:=ZP a s h;have d:=Fj n a s H h;obtain⟨M,N,O,U⟩:=h;obtain⟨Y,n2⟩:=H;have I:=κ d;clear d
 go_enter func254,ntmps254
 go_wp2_with (go_at_call 285;refine(J _).mono ?_;rintro e w' ⟨rfl,rfl⟩)
 go_quiet ((go_at_call 286;exact Calls.quiet_of_same (Vw s τ τ _)))
 go_wp2;go_ret;exact⟨xV I.o,_,rfl⟩
def FU (n v:Int) (a s:Int) (H:U64 n) (M:U64 v) (h:May a s) (w:World):
  Calls prog 278 #[ψ n,ι a,ι s,ψ v] w λe w'=>e= .returned (ψ (lay n a s v))/\ ∃k,w'=w.drewN k:=by
 have J:=ZP a s h;have d:=BY n a s v H M h;obtain⟨N,O,U,Y⟩:=h;obtain⟨aa,n2⟩:=H;have I:=κ d;clear d
 go_enter func278,ntmps278
 go_wp2_with (first | (go_at_call 285;refine(J _).mono ?_;rintro e w' ⟨rfl,rfl⟩) | (go_at_call 286;refine(Vw _ τ τ _).mono ?_;rintro e w' ⟨rfl,rfl⟩))
 go_ret;exact⟨xV I.o,0,rfl⟩
def Lr (n v:Int) (a s:Int) (H:I64 a) (J:I64 s) (h: ¬May a s) (w:World):
  Calls prog 278 #[ψ n,ι a,ι s,ψ v] w λe w'=>e= .returned (ψ (lay n a s v))/\ ∃k,w'=w.drewN k:=by
 have I:=BT a s H J h;have d:=κ (show n=lay n a s v by unfold lay;rw[ώ h]);clear h
 go_enter func278,ntmps278
 go_wp2_with (go_at_call 285;refine(I _).mono ?_;rintro e w' ⟨rfl,rfl⟩)
 go_ret;exact⟨xV d.o,0,rfl⟩
def FV (n v:Int) (a s:Int) (H:U64 n) (J:U64 v) (d:I64 a) (I:I64 s) (w:World):
  Calls prog 278 #[ψ n,ι a,ι s,ψ v] w λe w'=>e= .returned (ψ (lay n a s v))/\ ∃k,w'=w.drewN k:=by
 by_cases h:May a s
 ·exact FU n v a s H J h w
 ·exact Lr n v a s d I h w
def U9 (n s:Int) (H:U64 n) (I:I64 s) (w:World):
  Calls prog 327 #[ψ n,ι s] w λe w'=>e= .returned (ι (sgd n s))/\w'=w:=by
 obtain⟨J,n2⟩:=H;obtain⟨s1,s2⟩:=I;by_cases h1:1<=s
 ·by_cases h2:s<=64
  ·have d:=κ (AV n s h1 h2)
   go_enter func327,ntmps327
   go_wp2;go_ret;exact⟨xV d.o,rfl⟩
  ·have d:=κ (show 0=sgd n s by unfold sgd;rw[ϐ τ])
   go_enter func327,ntmps327
   go_wp2;go_ret;exact⟨xV d.o,rfl⟩
 ·have d:=κ (show 0=sgd n s by unfold sgd;rw[ϐ τ])
  go_enter func327,ntmps327
  go_wp2;go_ret;exact⟨xV d.o,rfl⟩
def KD (l:List Int) (v:Value) (w:World) (ag:8<l.length) (ad:SlI .u8 w v l) (O:Byt l):
  Calls prog 167 #[v] w λe w'=>e= .returned (ψ (num l))/\w'=w:=by
 obtain⟨ao,cap,rfl,am,H,ah,_,_⟩:=ad;obtain⟨b,ae,rfl,_,_⟩:=H 0 τ;have ab:=κ H;have aa:=κ O;have J:=κ (Sz l);clear H O
 go_enter func167,ntmps167
 go_wp2;obtain⟨d,Y⟩: ∃d,d=l.length-8:=⟨_,rfl⟩;have M:=κ (show (l.drop d).length=8 by simp;omega);have ak:d+8<=l.length:=by omega
 have aj:l.length<=d+8:=by omega
 rw[<-Y] at J ⊢;clear Y
 go_loop [4,14] (λn i=> ∃j:Nat,j<=8/\i= ι j/\n= ψ (num ((l.drop d).take j))) (λ_ i=>8-(intOf i).toNat)
 case atStart=>exact⟨0,τ,rfl,by simp[num]⟩
 case round=>
  obtain⟨j,al,rfl,rfl⟩:=hrel;by_cases hlt:j<8
  ·obtain⟨af,ap,N,_,U⟩:=ab.o (d+j) τ;simp only[G8,Addr.mk.injEq,and_true] at N;obtain⟨rfl,rfl⟩:=N;have an:d+j<l.length:=by omega
   have ai:w.cell? ⟨b,ae+d+j,ϋ⟩=ϊ (υ (l.getD (d+j) 0)):=by rw[M7];exact U
   clear U
   have I:=ZJ (l.drop d) j (by rw[M.o];exact hlt) (λi=>by
    have:=aa.o (d+i)
    rwa [ϒ,D0,<-ϒ])
   rw[List.getElem_drop] at I;have ac:=κ I;clear I;go_wp2
   go_round
   case rel=>exact⟨j+1,τ,by go_num,by rw[<-ac.o]⟩
   case measure=>simp[intOf];omega
  ·go_wp2;go_ret;exact⟨xV (by rw[K6 (by rw[M.o];omega)];exact J.o),rfl⟩
def Va (l:List Int) (v:Value) (w:World) (O:l.length<=8) (N:SlI .u8 w v l) (d:Byt l):
  Calls prog 167 #[v] w λe w'=>e= .returned (ψ (num l))/\w'=w:=by
 obtain⟨ac,cap,rfl,ab,H,U,_,_⟩:=N;have J:=κ H;have I:=κ d;clear H d
 go_enter func167,ntmps167
 go_wp2
 go_loop [4,14] (λn i=> ∃j:Nat,j<=l.length/\i= ι j/\n= ψ (num (l.take j))) (λ_ i=>l.length-(intOf i).toNat)
 case atStart=>exact⟨0,τ,rfl,by simp[num]⟩
 case round=>
  obtain⟨j,aa,rfl,rfl⟩:=hrel;by_cases hlt:j<l.length
  ·obtain⟨b,ad,rfl,_,Y⟩:=J.o j hlt;have M:=κ (ZJ l j hlt I.o);go_wp2
   go_round
   case rel=>exact⟨j+1,τ,by go_num,by rw[<-M.o]⟩
   case measure=>simp[intOf];omega
  ·go_wp2;go_ret;exact⟨xV (by rw[K6 τ]),rfl⟩
def gg (l:List Int) (v:Value) (w:World) (H:SlI .u8 w v l) (d:Byt l):
  Calls prog 167 #[v] w λe w'=>e= .returned (ψ (num l))/\w'=w:=by
 by_cases h:8<l.length
 ·exact KD l v w h H d
 ·exact Va l v w τ H d
def Fi:(prog.info? 5).map (λi=>(i.zero,i.size,i.bytes))=ϊ (ϊ (υ 0),1,1):=by kernel_rfl
def Dz (n:Int) (s:Nat) (O:U64 n) (ad:s<=8) (w:World):
  Calls prog 208 #[ψ n,ι s] w λe w'=> ∃v,e= .returned v/\SlI .u8 w' v (bys n s)/\ql w w':=by
 obtain⟨af,n2⟩:=O;obtain⟨ac,hi,Y,aa,ab⟩:=info_parts Fi
 go_enter func208,ntmps208
 go_wp2_with (at_make;refine wpList_make_full _ rfl _ _ 35 rfl w.heap.size 5 ac (υ 0) 1 underlying35 hi Y aa _ _ _ _ s rfl rfl τ τ ?c1 ?c2 ?c3 ?_)
 case c1=>rw[ab];omega
 case c2=>unfold maxLen;omega
 case c3=>omega
 intro w1 d I;have H:Below w.heap.size w w1:=(Below.refl _ _).grown I τ η;have J:w1.ownsRow w.heap.size 5 1 (δ (ϊ ⟨w.heap.size,0,ϋ⟩) s s) s ((vY n s 0).map (Value.int .u8)):=by
  rw[U0];simpa [toList_madeCells_one] using d
 clear d I;go_wp2
 go_loopw [16] (λi wr=> ∃k:Nat,k<=s/\i= ι k/\wr.ownsRow w.heap.size 5 1 (δ (ϊ ⟨w.heap.size,0,ϋ⟩) s s) s ((vY n s k).map (Value.int .u8))/\Below w.heap.size w wr) (λi _=>s-(intOf i).toNat)
 case atStart=>exact⟨0,τ,rfl,J,H⟩
 case round=>
  obtain⟨k,N,rfl,d,H⟩:=hrel;clear J;by_cases hlt:k<s
  ·have M:=d.cellAt (s-1-k) τ;have ae:=d.frozenAt (s-1-k);have U:=d.stored (s-1-k) (υ (by8 n k));rw[G7,ϖ (by rw[Y4];omega),C3] at M;go_wp2;go_roundw
   case rel=>exact⟨k+1,τ,by go_num,by rw[<-Dh n s k hlt,X2];exact U.1,H.setCell (ϔ _) _⟩
   case measure=>simp[intOf];omega
  ·obtain rfl:k=s:=by omega
   clear hlt N;go_wp2;refine bodyPost_ret (v:= δ (ϊ ⟨w.heap.size,0,ϋ⟩) k k) (by simp[results,results208,go_sem]) rfl ?_;rw[U3] at d;have:=zP n k;exact⟨_,rfl,SlI.of_owns (by rw[this];exact d) (by rw[this];omega),H⟩
def Ej (n s:Int) (d:1<=s) (H:s<=64):sgd n s%two s=n%two s:=by
 unfold sgd;rw[ώ τ];split
 ·exact U1 _ (Int.dvd_refl _)
 ·rw[Int.sub_emod_right];exact U1 _ (Int.dvd_refl _)
def KR (n s:Int) (H:1<=s) (I:s<=64): -two (s-1)<=sgd n s/\sgd n s<two (s-1):=by
 have b:=gy (s-1);have q:=JX (k:=s-1) τ;rw[show s-1+1=s from by omega] at q;have c:=S2 n (b:=two s) τ;have d:=P8 n (b:=two s) τ;unfold sgd;rw[ώ τ];split<;>omega
def EW (n a s v:Int) (d:U64 n):U64 (lay n a s v):=by
 unfold lay;split
 ·have:=EX n.toNat a.toNat s.toNat v.toNat;unfold U64;omega
 ·exact d
def Py (n a s v:Int) (h:May a s):(lay n a s v).toNat=DC n.toNat a.toNat s.toNat v.toNat:=by
 unfold lay;rw[ϐ h];simp
def BN {H d:Nat} (J:H<18446744073709551616) (I:d<18446744073709551616) (h: ∀i,i<64->H.testBit i=d.testBit i):H=d:=by
 apply Nat.eq_of_testBit_eq;intro i;by_cases hi:i<64
 ·exact h i hi
 ·rw[S0 (ϗ (m:=2 ^ 64) J (D6 τ τ)),S0 (ϗ (m:=2 ^ 64) I (D6 τ τ))]
def VA (n:Int) (k:Nat):yJ (bys n k)=n%2 ^ (8* k):=by
 induction k with
 | zero=>simp[bys,yJ,Int.emod_one]
 | succ k ih=>
  rw[Cq,show by8 n k::bys n k=[by8 n k]++bys n k from rfl,OA,ih,zP];unfold by8;rw[show (8* (k+1))=8* k+8 from by omega,Int.pow_add,show ((256:Int) ^ k)=2 ^ (8* k) from by rw[Int.pow_mul];rfl];have e:yJ [n/2 ^ (8* k)%256]=n/2 ^ (8* k)%256:=by simp[yJ]
  rw[e];have J:(0:Int)<2 ^ (8* k):=Int.pow_pos ζ;have d:=T3 n (2 ^ (8* k));have H:=T3 (n/2 ^ (8* k)) 256;have M:=S2 n (b:=2 ^ (8* k)) τ;have N:=P8 n J;have O:=S2 (n/2 ^ (8* k)) (b:=256) τ;have U:=P8 (n/2 ^ (8* k)) (b:=256) τ;generalize (2:Int) ^ (8* k)=P at *;generalize n%P=R at *;generalize ab:n/P=Q at *;generalize Q%256=r at *;generalize Q/256=q at *;have aa:r* P<=255* P:=Int.mul_le_mul_of_nonneg_right τ τ;have Y:0<=r* P:=Int.mul_nonneg τ τ;have I:n=(r* P+R)+(P* 256)* q:=by
   rw[<-d,<-H,Int.mul_add,Int.mul_comm P r,<-Int.mul_assoc];omega
  rw[show (2:Int) ^ 8=256 from by decide];rw[I,Int.add_mul_emod_self_left];exact(F5 τ τ).symm
def Byt.snoc {x:Int} (h:Byt (l++[x])):Byt l/\0<=x/\x<=255:=by
 constructor
 ·intro i;by_cases hi:i<l.length
  ·have:=h i
   rwa [ϒ,Θ hi,<-ϒ] at this
  ·rw[ϒ,I8 τ];simp
 ·have:=h l.length;rw[ϒ,Γ (ϔ _)] at this
  simpa using this
def SC (l:List Int): ∀m:List Int,l.length=m.length->Byt l->Byt m->yJ l=yJ m->l=m:=by
 refine gM (P:=λl=> ∀m:List Int,l.length=m.length->Byt l->Byt m->yJ l=yJ m->l=m) ?_ ?_ l
 ·intro m h _ _ _;exact(Ϥ (by simpa using h.symm)).symm
 ·intro l x U m d N I M;rcases List.eq_nil_or_concat m with rfl | ⟨m',y,rfl⟩
  ·simp at d
  ·rw[List.concat_eq_append] at *;rw[yR,yR] at M;obtain⟨O,Y⟩:=N.snoc;obtain⟨J,aa⟩:=I.snoc;have H:x=y:=by omega
   have:=U m' (by simpa using d) O J τ;rw[this,H]
def JF (n:Int) (k:Nat):Byt (bys n k):=by
 intro i;rw[ϒ];by_cases hi:i<(bys n k).length
 ·rw[ϖ hi,ϣ];simp only[bys,J7];exact IX _ _
 ·rw[I8 τ];simp
def Yy (l:List Int) (h:Byt l):0<=yJ l/\yJ l<2 ^ (8* l.length):=by
 revert h
 refine gM (P:=λl=>Byt l->0<=yJ l/\yJ l<2 ^ (8* l.length)) ?_ ?_ l
 ·intro _;simp[yJ]
 ·intro l x H h;obtain⟨d,I⟩:=h.snoc;have:=H d;rw[yR,Ϗ,C9,show 8* (l.length+1)=8* l.length+8 from by omega,Int.pow_add,show (2:Int) ^ 8=256 from by decide];omega
def uD (l:List Int) (h:Byt l) (I:l.length<=8):num l=yJ l:=by
 have d:=Yy l h;have H:(2:Int) ^ (8* l.length)<=2 ^ 64:=by
  have:=D6 (n:=2) τ (show 8* l.length<=64 by omega)
  exact_mod_cast this
 rw[Xh];exact F5 d.1 (K7 d.2 H)
def qbB (l:List Int) (h:Byt l) (H:l.length<=8):bys (num l) l.length=l:=by
 apply SC _ _ (zP _ _) (JF _ _) h;have d:=Yy l h;rw[VA,uD l h H];exact F5 d.1 d.2
def qy (n s:Int):List Int:=if 0<=s/\s<=8 then bys n s.toNat else []
def gQ (n s:Int) (h:0<=s/\s<=8):qy n s=bys n s.toNat:=by unfold qy;rw[ϐ h]
def DA (n s:Int) (H:U64 n) (I:I64 s) (w:World):
  Calls prog 208 #[ψ n,ι s] w λe w'=> ∃v,e= .returned v/\SlI .u8 w' v (qy n s)/\ql w w':=by
 obtain⟨s1,s2⟩:=I;by_cases h:0<=s/\s<=8
 ·obtain⟨S,rfl⟩:=Ϻ h.1;rw[gQ _ _ h,Ψ];exact Dz n S H τ w
 ·have d:=κ (show qy n s=[] by unfold qy;rw[ώ h]);by_cases h1:0<=s
  ·have J:8<s:=by omega
   clear h
   go_enter func208,ntmps208
   go_wp2;go_ret;exact⟨_,rfl,by rw[d.o];exact SlI.nil _ _,ql.refl _⟩
  ·clear h
   go_enter func208,ntmps208
   go_wp2;go_ret;exact⟨_,rfl,by rw[d.o];exact SlI.nil _ _,ql.refl _⟩
def qU {P:Program} (w:World) {o:Oper} (M:o.guard=ϋ) (s x:Operand) (t:TypeId)
  (O:o.op= .call {callee:= .builtin .append,args:= #[s,x],argTypes:= #[t,t]})
  (base:Nat) (e:TypeId) (i:TypeInfo) (z:Value) (bytes:Nat) (Y:P.underlying t=ϊ (.slice e)) (hi:P.info? e=ϊ i) (ax:i.zero=ϊ z)
  (av:i.size=1) (al:i.bytes=bytes) (ay:z.cells.size=1)
  (v:Value) (k:IntKind) (l:List Int) (U:a.eval s=v) (I:w.ownsRow base e 1 v l.length (l.map (Value.int k)))
  (ae:Value) (d:List Int) (aa:a.eval x=ae) (ao:SlI k w ae d)
  (am:(l.length+d.length)* bytes<=140737488355328) (aA:1<=bytes) (ak:base<=w.heap.size)
  (h: ∀v' w',w'.ownsRow base e 1 v' (l++d).length ((l++d).map (Value.int k))->w.grownBy w' v.ownBlock->(v'.ownBlock=v.ownBlock∨v'.ownBlock=ϊ w.heap.size)->wpList P ops Q rest (a.put o.dst v') w'):wpList P ops Q (o::rest) a w:=by
 have aj:l.length+d.length<=maxLen:=by
  have:=J6 (l.length+d.length) (show 0<bytes by omega);unfold maxLen;omega
 obtain⟨az,cap,rfl,aB,ap,aC,aD,aq⟩:=ao;cases az with
 | none=>
  have H:cap=0:=aq rfl;subst H;have au:d=[]:=Ϥ τ;subst au;refine wpList_append_own_none M s x t O base e i 1 Y hi v l.length (l.map (Value.int k)) U I aa ?_;exact h v w (by simpa using I) ⟨rfl,rfl,rfl,ϔ _,λ_ _ _=>rfl⟩ (ϑ rfl)
 | some ad=>
  refine wpList_append_own_at w M s x t O base e i z 1 bytes Y hi ax av al ay ζ v l.length (l.map (Value.int k)) U I ad d.length cap (d.map (Value.int k)) aa η ?_ ?_ aj am ak ?_
  ·intro j u N;rw[G7] at N;obtain⟨y,ab,rfl⟩:=N2.1 N;obtain⟨ar,aE⟩:=ϟ.1 ab;obtain⟨b,ac,J,_,an⟩:=ap j ar;simp only[G8] at J;subst J;have af:(⟨b,ac,ϋ⟩:Addr).add j=⟨b,ac+j,ϋ⟩:=by
    unfold Addr.add;split
    ·rename_i H;subst H;rfl
    ·rfl
   rw[af,an,ϒ,ab];rfl
  ·intro u aw;obtain⟨y,_,rfl⟩:=E0.1 aw;rfl
  ·intro v' w' ag ah _ ai;exact h v' w' (by simpa using ag) ah ai
def XB {e size:Nat} {u:Value} (h:w.ownsRow base e size v n xs) (g:w.grownBy w' u.ownBlock) (d: ∀b,v.ownBlock=ϊ b->u.ownBlock≠ϊ b):w'.ownsRow base e size v n xs:=by
 obtain⟨H,I⟩:=h;refine⟨H, ?_⟩;rcases I with h | ⟨b,cap,cur,e1,hb,hg,rest⟩
 ·exact ϑ h
 ·refine ϕ ⟨b,cap,cur,e1,hb, ?_,rest⟩;rw[g.block b (lt_of_block hg) (by rw[e1] at d;exact λe=>d b rfl e.symm)];exact hg
def gB {e size:Nat} (h:w.ownsRow base e size v n xs) (d:v.ownBlock=ϊ b):b<w.heap.size:=by
 rcases h.2 with ⟨rfl,_⟩ | ⟨H,cap,cur,rfl,_,I,_⟩
 ·cases d
 ·obtain rfl:H=b:=by injection d
  exact lt_of_block I
def jE {e size:Nat} (h:w.ownsRow base e size v n xs) (m:ql w w'):w'.ownsRow base e size v n xs:=by
 obtain⟨d,H⟩:=h;refine⟨d, ?_⟩;rcases H with h | ⟨b,cap,cur,e1,hb,hg,rest⟩
 ·exact ϑ h
 ·exact ϕ ⟨b,cap,cur,e1,hb,by rw[m.block b (lt_of_block hg)];exact hg,rest⟩
def SlI.take (h:SlI k w (δ H n cap) l) (m:Nat) (ac:m<=l.length):SlI k w (δ H m cap) (l.take m):=by
 obtain⟨ad,Y,e,aa,I,ab,J,M⟩:=h;cases e;have d:(l.take m).length=m:=by simp;omega
 refine⟨H,cap,by rw[d],by rw[d];omega,λi hi=> ?_,by rw[d];omega,J,M⟩;rw[d] at hi;obtain⟨b,U,e,N,O⟩:=I i τ;exact⟨b,U,e,N,by rw[O,ϒ,ϒ,ο,ϐ hi]⟩
def SlI.take3 (h:SlI k w (δ H n cap) l) (m:Nat) (ac:m<=l.length):SlI k w (δ H m m) (l.take m):=by
 obtain⟨ad,U,e,Y,I,aa,ab,J⟩:=h;cases e;have d:(l.take m).length=m:=by simp;omega
 refine⟨H,m,by rw[d],by rw[d];omega,λi hi=> ?_,by rw[d];omega,τ,λx=>by have:=J x;omega⟩;rw[d] at hi;obtain⟨b,O,e,M,N⟩:=I i τ;exact⟨b,O,e,M,by rw[N,ϒ,ϒ,ο,ϐ hi]⟩
def SlI.drop {d:Nat} (h:SlI k w (δ (ϊ ⟨b,d,ϋ⟩) n cap) l) (m:Nat) (ab:m<=l.length):SlI k w (δ (ϊ ⟨b,d+m,ϋ⟩) (n-m) (cap-m)) (l.drop m):=by
 obtain⟨ac,N,e,O,H,U,Y,aa⟩:=h;cases e;refine⟨_,cap-m,by rw[Ϣ],by rw[Ϣ];omega,λi hi=> ?_,by rw[Ϣ];omega,τ,λh=>by cases h⟩;rw[Ϣ] at hi;obtain⟨M,ad,e,I,J⟩:=H (m+i) τ;cases e;refine⟨b,d+m,rfl,I, ?_⟩;rw[M7,J,ϒ,ϒ,D0]
def SlI.from_ (h:SlI k w (δ d n cap) l) (m:Nat) (af:m<=l.length) (I:Option Addr) (H:I=if cap=m then d else d.map (·.add m)):SlI k w (δ I (n-m) (cap-m)) (l.drop m):=by
 obtain⟨ag,ab,e,ac,U,ad,ae,M⟩:=h;cases e;refine⟨I,cap-m,by rw[Ϣ],by rw[Ϣ];omega,λi hi=> ?_,by rw[Ϣ];omega,τ,λh=> ?_⟩
 ·rw[Ϣ] at hi;obtain⟨b,J,e,Y,aa⟩:=U (m+i) τ;rw[ώ τ,e] at H;have N:(⟨b,J,ϋ⟩:Addr).add m=⟨b,J+m,ϋ⟩:=by
   unfold Addr.add;split
   ·rename_i O;subst O;rfl
   ·rfl
  refine⟨b,J+m,by rw[H,C3,N],Y, ?_⟩;rw[M7,aa,ϒ,ϒ,D0]
 ·subst H;split at h
  ·have:=M h;omega
  ·cases d with
   | none=>have:=M rfl;omega
   | some a=>simp at h
def Od (v:Value) (l:List Int) (w:World) (J:SlI .u8 w v l) (al:l.length<=1000000):
  Calls prog 50 #[v] w λe w'=> ∃v',e= .returned v'/\w'.ownsRow w.heap.size 5 1 v' l.length (l.map (Value.int .u8))/\ql w w':=by
 obtain⟨ag,hi,ac,ae,af⟩:=info_parts (P:=prog) (e:=5) (z:= υ 0) (size:=1) (bytes:=1) ξ;have d:=κ J;obtain⟨ah,cap,rfl,ai,H,aj,ak,I⟩:=J;cases ah with
 | none=>
  have O:cap=0:=I rfl;subst O;obtain rfl:l=[]:=Ϥ τ;clear d H;have Y:=Go.run_eql_slice_nil (P:=prog) w 35 5 ϋ 0 0 underlying35
  go_enter func50,ntmps50
  go_wp2;go_ret;exact⟨_,rfl,⟨rfl,ϑ ⟨rfl,rfl⟩⟩,ql.refl _⟩
 | some ad=>
  have aa:=World.ownsRow_lit (e:=5) (size:=1) (base:=w.heap.size) w #[] 0 (ϔ _) (by unfold maxLen;omega) rfl;clear H I;have Y:=Go.run_eql_slice_nil (P:=prog) w 35 5 (ϊ ad) l.length cap underlying35
  go_enter func50,ntmps50
  go_wp2_with (at_builtin;refine xr _ rfl (.tmp 5) (.tmp 6) 35 rfl w.heap.size 5 ag (υ 0) 1 underlying35 hi ac ae af rfl _ .u8 [] rfl aa _ l rfl (d.o.keep X8) (by simp;omega) ζ (ql.alloc w _).size ?_;intro v' w2 ab U;have N:=κ ab;have M:=κ U)
  go_ret;exact⟨_,rfl,N.o,(ql.alloc w (.cells #[] 5)).grown M.o (ql.alloc w _).size (by intro q h;cases h;exact ϔ _)⟩
def xC {e size:Nat} (h:w.ownsRow base e size v n xs) (m:jt S w w') (I: ∀k,S k->k<base):w'.ownsRow base e size v n xs:=by
 obtain⟨d,H⟩:=h;refine⟨d, ?_⟩;rcases H with h | ⟨g,cap,cur,e1,hb,hg,rest⟩
 ·exact ϑ h
 ·exact ϕ ⟨g,cap,cur,e1,hb,m.blk hg (λx=>by have:=I g x;omega),rest⟩
def qT {e:Nat} (h:w.ownsRow base e 1 v n xs): ∃oa m cap,v= δ oa m cap/\m=n/\n<=cap:=by
 rcases h.2 with ⟨rfl,e⟩ | ⟨b,cap,cur,rfl,_,_,d,_⟩
 ·exact⟨ϋ,0,0,rfl,τ,τ⟩
 ·exact⟨_,_,cap,rfl,rfl,d⟩
def PI {e size:Nat} {o:Obj} (g:w.grownBy w' v.ownBlock) (H:w.ownsRow base e size v n xs) (I:b<base) (h:w.heap[b]? =ϊ o):w'.heap[b]? =ϊ o:=by
 rw[g.block b (qn h)]
 ·exact h
 ·rcases H.2 with ⟨rfl,_⟩ | ⟨d,cap,cur,rfl,J,_⟩
  ·exact λx=>by cases x
  ·intro x;have:b=d:=by injection x
   omega
structure j5 (w:World) (W:Nat) (v:Value) (l:List Int):Prop where
 blk:w.heap[W]? =ϊ (.cells #[v] 204 (0,0))
 row:w.ownsRow (W+1) 5 1 v l.length (l.map (Value.int .u8))
def WrS (W:Nat) (v:Value) (b:Nat):Prop:=b=W∨v.ownBlock=ϊ b
def Cw (h:j5 w W v l) (vb:Value) (lb:List Int) (O:SlI .u8 w vb lb) (ap:l.length+lb.length<=10000000):
  Calls prog 96 #[γ W,vb] w λe w'=>e= .returned (.tuple #[])/\(∃v',j5 w' W v' (l++lb)/\(v'.ownBlock=v.ownBlock∨v'.ownBlock=ϊ w.heap.size))/\jt (WrS W v) w w':=by
 obtain⟨ak,hi,ah,ai,aj⟩:=info_parts (P:=prog) (e:=5) (z:= υ 0) (size:=1) (bytes:=1) ξ;have al:=β0 h.blk;have an:=yw h.blk 0;have ad:=qn h.blk;have I:=κ h;have ac:=κ O;clear h O
 go_enter func96,ntmps96
 go_wp2_with (at_builtin;refine qU _ rfl (.tmp 8) (.tmp 9) 35 rfl (W+1) 5 ak (υ 0) 1 underlying35 hi ah ai aj rfl v .u8 l rfl I.o.row _ lb rfl ac.o τ ζ ad ?_;intro v' w2 M J N;have aa:=κ M;have d:=κ J;have Y:=κ N;have H:=PI J I.o.row (F1 W) I.o.blk;have c2:=β0 H;have ao:=yw H 0;have ab:=κ H;obtain⟨ar,aq,am,rfl,af⟩:=qT M;clear M J N H af)
 refine bodyPost_end (v:= .tuple #[]) ?rr rfl ?_
 case rr=>simp[results,results96,go_sem]
 have U:jt (WrS W v) w w2:=⟨d.o.os,d.o.tape,d.o.output,d.o.size,λk ae ag=>d.o.block k ae (λe=>ag (ϕ e.symm))⟩;refine⟨rfl,⟨_,⟨qB (qp ab.o 0 _) rfl, ?_⟩,Y.o⟩,U.set (ϑ rfl) _⟩;exact xC (S:=λb=>b=W) aa.o ((jt.refl (λb=>b=W) w2).set (p:=⟨W,0,ϋ⟩) rfl _) (by rintro k rfl;exact F1 _)
def j5.more (h:j5 w W v l) (m:ql w w'):j5 w' W v l:=⟨qq m h.blk,jE h.row m⟩
def un (w w':World) (W:Nat) (v:Value) (l:List Int):Prop:=
 (∃v',j5 w' W v' l/\(v'.ownBlock=v.ownBlock∨ ∃g,v'.ownBlock=ϊ g/\w.heap.size<=g))/\jt (WrS W v) w w'
def un.after {w1:World} (m:ql w w1) (h:un w1 w' W v l):un w w' W v l:=by
 obtain⟨⟨v',H,d⟩,a⟩:=h;refine⟨⟨v',H, ?_⟩,(jt.of_more m).trans a⟩;rcases d with d | ⟨g,d,h3⟩
 ·exact ϑ d
 ·exact ϕ ⟨g,d,Ϙ m.size h3⟩
def uU (h:j5 w W v l) (vb:Value) (lb:List Int) (M:SlI .u8 w vb lb) (J:l.length+lb.length<=10000000):
  Calls prog 96 #[γ W,vb] w λe w'=>e= .returned (.tuple #[])/\un w w' W v (l++lb):=
 (Cw h vb lb M J).mono λ_ _ ⟨I,⟨v',d,H⟩,a⟩=>⟨I,⟨v',d,H.imp id λe=>⟨_,e,ϔ _⟩⟩,a⟩
def uG (h:j5 w W v l) (n s:Int) (I:0<=n/\n<=4294967295) (ab:1<=s/\s<=4) (Y:l.length<=1000000):
  Calls prog 155 #[γ W,ω n,ι s] w λe w'=>e= .returned (.tuple #[])/\un w w' W v (l++qy n s):=by
 have H:=κ h;have aa:(qy n s).length<=8:=by
  obtain⟨k,rfl⟩: ∃k:Nat,s=k:=⟨s.toNat,τ⟩;unfold qy;rw[ϐ τ,zP];omega
 have J:U64 n:=by unfold U64;omega
 have N:I64 s:=by unfold I64;omega
 obtain⟨ac,n2⟩:=I;clear h
 go_enter func155,ntmps155
 go_wp2_with first | (go_at_call 208;refine(DA n s J N _).mono ?_;rintro e w1 ⟨U,rfl,M,d⟩) | (go_at_call 96;refine(uU (H.o.more d) U _ M τ).mono ?_;rintro e w2 ⟨rfl,O⟩)
 refine bodyPost_end (v:= .tuple #[]) ?rr rfl ?_
 case rr=>simp[results,results155,go_sem]
 exact⟨rfl,O.after d⟩
def wk (h:j5 w W v l) (n:Int) (J:0<=n/\n<=255) (I:l.length<=1000000):
  Calls prog 93 #[γ W,υ n] w λe w'=>e= .returned (.tuple #[])/\un w w' W v (l++qy n 1):=by
 have H:=κ h;have M:0<=n/\n<=4294967295:=by omega
 have d:=κ M;obtain⟨O,n2⟩:=J;clear h
 go_enter func93,ntmps93
 go_wp2_with (go_at_call 155;refine(uG H.o n 1 d.o ζ I).mono ?_;rintro e w2 ⟨rfl,N⟩)
 refine bodyPost_end (v:= .tuple #[]) ?rr rfl ?_
 case rr=>simp[results,results93,go_sem]
 exact⟨rfl,N⟩
def kU (h:j5 w W v l) (n:Int) (J:0<=n/\n<=65535) (I:l.length<=1000000):
  Calls prog 94 #[γ W,φ n] w λe w'=>e= .returned (.tuple #[])/\un w w' W v (l++qy n 2):=by
 have H:=κ h;have M:0<=n/\n<=4294967295:=by omega
 have d:=κ M;obtain⟨O,n2⟩:=J;clear h
 go_enter func94,ntmps94
 go_wp2_with (go_at_call 155;refine(uG H.o n 2 d.o ζ I).mono ?_;rintro e w2 ⟨rfl,N⟩)
 refine bodyPost_end (v:= .tuple #[]) ?rr rfl ?_
 case rr=>simp[results,results94,go_sem]
 exact⟨rfl,N⟩
def uw (h:j5 w W v l) (n:Int) (J:0<=n/\n<=4294967295) (I:l.length<=1000000):
  Calls prog 95 #[γ W,ω n] w λe w'=>e= .returned (.tuple #[])/\un w w' W v (l++qy n 4):=by
 have H:=κ h;have M:0<=n/\n<=4294967295:=by omega
 have d:=κ M;obtain⟨O,n2⟩:=J;clear h
 go_enter func95,ntmps95
 go_wp2_with (go_at_call 155;refine(uG H.o n 4 d.o ζ I).mono ?_;rintro e w2 ⟨rfl,N⟩)
 refine bodyPost_end (v:= .tuple #[]) ?rr rfl ?_
 case rr=>simp[results,results95,go_sem]
 exact⟨rfl,N⟩
def wZ (h:j5 w W v l) (H:l.length<=1000000):
  Calls prog 97 #[γ W] w λe w'=> ∃v',e= .returned v'/\w'.ownsRow w.heap.size 5 1 v' l.length (l.map (Value.int .u8))/\ql w w':=by
 have M:=β0 h.blk;have d:=κ (SlI.of_owns h.row τ);clear h
 go_enter func97,ntmps97
 go_wp2_with (go_at_call 50;refine(Od v l w d.o H).mono ?_;rintro e w2 ⟨N,rfl,J,I⟩)
 go_ret;exact⟨_,rfl,J,I⟩
def jG {e size:Nat} (h:w.ownsRow base e size v n xs) (d:v.ownBlock=ϊ b):base<=b:=by
 rcases h.2 with ⟨rfl,_⟩ | ⟨H,cap,cur,rfl,I,_⟩
 ·cases d
 ·obtain rfl:H=b:=by injection d
  exact I
def un.to_more {d:World} {M:List Int} (J:un w w' W v l) (h:j5 w W v M) (m:ql d w) (H:d.heap.size<=W):ql d w':=
 jt.to_more m J.2 (by
  rintro k (rfl | I)
  ·exact H
  ·have:=jG h.row I;omega)
def Jv {d:World} (a:jt (λb=>b=R) w w') (m:ql d w) (H:d.heap.size<=R):ql d w':=
 jt.to_more m a (by rintro k rfl;exact H)
def wR (w:World):j5 (w.alloc (.cells #[δ ϋ 0 0] 204)) w.heap.size (δ ϋ 0 0) []:=⟨qj _ _,⟨rfl,ϑ ⟨rfl,rfl⟩⟩⟩
structure WrK (w0 w:World) (W:Nat) (v:Value) (l:List Int) (B:Nat) (o:Obj):Prop where
 wr:j5 w W v l
 more:ql w0 w
 base:w0.heap.size<=W
 keep:w.heap[B]? =ϊ o
 ne: ¬B=W
 apart:v.ownBlock≠ϊ B
def WrK.new {d:World} (o:Obj) (h:j5 w W v l) (m:ql d w) (b:d.heap.size<=W):WrK d (w.alloc o) W v l w.heap.size o:=
 ⟨h.more (ql.alloc w o),m.al o,b,qj w o,λe=>by have:=qn h.blk;omega,λe=>by have:=gB h.row e;omega⟩
def WrK.wrote {H:World} {l':List Int} {o:Obj} (h:WrK H w W v l B o) (x:un w w' W v l'): ∃v',WrK H w' W v' l' B o:=by
 have J:=x.to_more h.wr h.more h.base;obtain⟨⟨v',I,d⟩,a⟩:=x;refine⟨v',I,J,h.base,a.blk h.keep ?_,h.ne, ?_⟩
 ·rintro(e | e)
  ·exact h.ne e
  ·exact h.apart e
 ·intro e;rcases d with d | ⟨g,d,h3⟩
  ·exact h.apart (by rw[<-d];exact e)
  ·rw[e] at d;obtain rfl:B=g:=by injection d
   have:=qn h.keep;omega
structure qu (w:World) (R:Nat) (left:List Int) (wrong:Int) (C:Nat->Prop:=λ_=>True):Prop where
 blk: ∃v,w.heap[R]? =ϊ (.cells #[v,.int .i64 wrong] 247 (0,0))/\SlI .u8 w v left/\(¬left=[]-> ∀g,v.ownBlock=ϊ g->C g)
 small:left.length<=1000000
 byt:Byt left
 shut: ¬wrong=0->left=[]
def qu.more (h:qu w R l e C) (m:ql w w'):qu w' R l e C:=by
 obtain⟨⟨v,d,H,N⟩,I,J,M⟩:=h;exact⟨⟨v,qq m d,H.keep m,N⟩,I,J,M⟩
def qu.mono (h:qu w R l e C) (k: ∀g,C g->D g):qu w R l e D:=by
 obtain⟨⟨v,d,H,N⟩,I,J,M⟩:=h;exact⟨⟨v,d,H,λx g y=>k g (N x g y)⟩,I,J,M⟩
def qu.old (h:qu w R l e C):qu w R l e (λg=>C g/\g<w.heap.size):=by
 obtain⟨⟨v,H,d,N⟩,I,J,M⟩:=h;refine⟨⟨v,H,d,λx g y=>⟨N x g y, ?_⟩⟩,I,J,M⟩;obtain⟨Y,cap,rfl,_,U,_⟩:=d;obtain⟨b,aa,rfl,O,_⟩:=U 0 (C1.2 x);obtain rfl:b=g:=by injection y
 exact O
def AU (h:SlI .u8 w v l) (M: ¬l=[]-> ∀b,v.ownBlock=ϊ b-> ¬D b) (a:jt D w w'):SlI .u8 w' v l:=by
 obtain⟨O,cap,rfl,H,I,J⟩:=h;refine⟨O,cap,rfl,H,λi hi=> ?_,J⟩;obtain⟨b,U,rfl,d,N⟩:=I i hi;exact⟨b,U,rfl,ϗ d a.size,by rw[a.cells b _ d (M (λe=>by rw[e] at hi;simp at hi) b rfl)];exact N⟩
def qu.off (h:qu w R l e C) (m:jt D w w') (U: ¬D R) (O: ∀g,C g-> ¬D g):qu w' R l e C:=by
 obtain⟨⟨v,H,I,d⟩,J,M,N⟩:=h;exact⟨⟨v,m.blk H U,AU I (λx b y=>O b (d x b y)) m,d⟩,J,M,N⟩
def Ke (h:qu w R l e C) (o:Nat) (x:Int):w.cell? ⟨R,o,ϋ⟩≠ϊ (υ x):=by
 obtain⟨⟨v,d,⟨H,cap,rfl,_⟩,_⟩,_⟩:=h;rw[cell_of_row w R o _ _ _ d]
 match o with
 | 0=>simp
 | 1=>simp
 | n+2=>simp
def SlI.away (h:SlI .u8 w v l) (m:jt S w w') (O: ∀b,S b-> ∀o x,w.cell? ⟨b,o,ϋ⟩≠ϊ (υ x)):SlI .u8 w' v l:=by
 obtain⟨U,cap,I,J,M,N⟩:=h;refine⟨U,cap,I,J,λi hi=> ?_,N⟩;obtain⟨b,Y,e,d,H⟩:=M i hi;exact⟨b,Y,e,ϗ d m.size,by rw[m.cells b _ d (λs=>O b s _ _ H)];exact H⟩
def xh:Byt []:=by intro i;simp
def Byt.drop (h:Byt l) (n:Nat):Byt (l.drop n):=by
 intro i;have:=h (n+i);rw[ϒ] at this ⊢;rw[D0];exact this
def Byt.take (h:Byt l) (n:Nat):Byt (l.take n):=by
 intro i;have:=h i;rw[ϒ] at this ⊢;rw[ο];split
 ·exact this
 ·simp
def tkB (l:List Int) (n:Int):List Int:=if n<=l.length then l.take n.toNat else []
def tkL (l:List Int) (n:Int):List Int:=l.drop n.toNat
def tkE (l:List Int) (n e:Int):Int:=if (l.length:Int)<n/\e=0 then 3 else e
def Eh (a b:List Int):tkB (a++b) a.length=a:=by
 unfold tkB;rw[ϐ (by simp;omega)];simp
def Ef (a b:List Int):tkL (a++b) a.length=b:=by
 unfold tkL;simp
def Eg (a b:List Int) (e:Int):tkE (a++b) a.length e=e:=by
 unfold tkE;rw[ώ (by simp;omega)]
def zZ {a b:List Int} (d:Byt a) (H:Byt b):Byt (a++b):=by
 intro i;by_cases h:i<a.length
 ·have:=d i;rw[ϒ] at this ⊢;rw[Θ h];exact this
 ·have:=H (i-a.length);rw[ϒ] at this ⊢;rw[Γ τ];exact this
def zn (h:qu w R l e C):
  Calls prog 57 #[γ R] w λH w'=>H= .returned (ι l.length)/\w'=w:=by
 obtain⟨⟨v,d,⟨J,cap,rfl,_⟩,_⟩,_⟩:=h;have I:=β0 d;clear d
 go_enter func57,ntmps57
 go_wp2;go_ret;exact⟨rfl,rfl⟩
def Lx (v:Value) (l:List Int) (w:World) (U:SlI .u8 w v l) (N:Byt l) (I:l.length<=1000000):
  Calls prog 51 #[v] w λe w'=> ∃R,e= .returned (γ R)/\w.heap.size<=R/\qu w' R l 0/\ql w w':=by
 go_enter func51,ntmps51
 go_wp2_with (go_at_call 50;refine(Od v l w U I).mono ?_;rintro e w2 ⟨ac,rfl,d,J⟩;have M:=κ d;have H:=κ J;obtain⟨ab,aa,Y,rfl,O⟩:=qT d;clear d J O)
 go_ret;exact⟨_,rfl,H.o.size,⟨⟨_,qj _ _,(SlI.of_owns M.o τ).keep X8,λ_ _ _=>trivial⟩,I,N,λh=>ϩ rfl h⟩,H.o.al _⟩
def NV (v:Value) (l:List Int) (w:World) (U:SlI .u8 w v l) (N:Byt l) (J:l.length<=1000000):
  Calls prog 51 #[v] w λe w'=> ∃R,e= .returned (γ R)/\w.heap.size<=R/\qu w' R l 0 (λg=>w.heap.size<=g/\g<w'.heap.size)/\ql w w':=by
 go_enter func51,ntmps51
 go_wp2_with (go_at_call 50;refine(Od v l w U J).mono ?_;rintro e w2 ⟨ac,rfl,H,M⟩;have d:=κ H;have I:=κ M;obtain⟨ab,aa,Y,rfl,O⟩:=qT H;clear H M O)
 go_ret;exact⟨_,rfl,I.o.size,⟨⟨_,qj _ _,(SlI.of_owns d.o τ).keep X8,λ_ g y=>⟨jG d.o y,ϗ (gB d.o y) X8.size⟩⟩,J,N,λh=>ϩ rfl h⟩,I.o.al _⟩
def gf (h:qu w R l e C) (x:Int) (d:x=0∨(¬x=0/\ ¬e=0)):
  Calls prog 55 #[γ R,ι x] w λI w'=>I= .returned (.tuple #[])/\w'=w:=by
 obtain⟨⟨v,H,J,M⟩,_⟩:=h;have c1:=β1 H;clear H J M;rcases d with d | ⟨d,he⟩
 ·subst d
  go_enter func55,ntmps55
  go_wp2;refine bodyPost_ret (v:= .tuple #[]) ?rr rfl ?_
  case rr=>simp[results,results55,go_sem]
  exact⟨rfl,rfl⟩
 ·have N:(x==0)=ύ:=by simpa using d
  have O:(e != 0)=ό:=by simpa using he
  go_enter func55,ntmps55
  go_wp2;refine bodyPost_ret (v:= .tuple #[]) ?rr rfl ?_
  case rr=>simp[results,results55,go_sem]
  exact⟨rfl,rfl⟩
def Jd (h:qu w R l 0 C) (x:Int) (J: ¬x=0):
  Calls prog 55 #[γ R,ι x] w λI w'=>I= .returned (.tuple #[])/\qu w' R [] x C/\jt (λb=>b=R) w w':=by
 obtain⟨⟨v,d,⟨Y,cap,rfl,_⟩,_⟩,_⟩:=h;have M:=β0 d;have c1:=β1 d;have N:=yw d 0;have O:=yw d 1;have H:=κ d;have U:(x==0)=ύ:=by simpa using J
 clear d
 go_enter func55,ntmps55
 go_wp2;refine bodyPost_end (v:= .tuple #[]) ?rr rfl ?_
 case rr=>simp[results,results55,go_sem]
 exact⟨rfl,⟨⟨_,qB (qp (qp H.o 1 _) 0 _) rfl,SlI.nil _ _,λx=>ϩ rfl x⟩,η,xh,λ_=>rfl⟩,((jt.refl (λb=>b=R) w).set (p:=⟨R,1,ϋ⟩) rfl _).set (p:=⟨R,0,ϋ⟩) rfl _⟩
def Wg (n:Int) (H:n<=0) (h:qu w R l e C):
  Calls prog 110 #[γ R,ι n] w λd w'=>d= .returned (δ ϋ 0 0)/\w'=w:=by
 clear h
 go_enter func110,ntmps110
 go_wp2;go_ret;exact⟨rfl,rfl⟩
def Y9 (n:Int) (Y:0<n) (O:(l.length:Int)<n) (h:qu w R l e C):
  Calls prog 110 #[γ R,ι n] w λM w'=>M= .returned (δ ϋ 0 0)/\qu w' R [] (tkE l n e) C/\jt (λb=>b=R) w w':=by
 have d:=κ h;obtain⟨⟨v,H,⟨aa,cap,rfl,_⟩,_⟩,_⟩:=h;have U:=β0 H;clear H;by_cases he:e=0
 ·subst he
  go_enter func110,ntmps110
  go_wp2_with (go_at_call 55;refine(Jd d.o 3 ζ).mono ?_;rintro e w2 ⟨rfl,N,J⟩)
  go_ret;refine⟨rfl, ?_,J⟩;have:tkE l n 0=3:=by unfold tkE;rw[ϐ ⟨O,rfl⟩]
  rw[this];exact N
 ·go_enter func110,ntmps110
  go_wp2_with (go_at_call 55;refine(gf d.o 3 (ϕ ⟨ζ,he⟩)).mono ?_;rintro e w2 ⟨rfl,rfl⟩)
  go_ret;have I:=d.o;have:tkE l n e=e:=by unfold tkE;rw[ώ (λx=>he x.2)]
  rw[this];obtain rfl:=I.shut he;exact⟨rfl,I,jt.refl _ _⟩
def Bx {c m H k k':Nat} (h:(δ (if c=n then d else d.map (·.add n)) m k).ownBlock=ϊ g):(δ d H k').ownBlock=ϊ g:=by
 by_cases e:c=n
 ·rw[ϐ e] at h;cases d<;>exact h
 ·rw[ώ e] at h;cases d with
  | none=>exact h
  | some a=>
   simp only[C3,Value.ownBlock] at h ⊢;rw[<-h];unfold Addr.add;split<;>rfl
def KB (n:Nat) (ay:0<n) (ac:n<=l.length) (h:qu w R l e C):
  Calls prog 110 #[γ R,ι n] w λak w'=> ∃v',ak= .returned v'/\SlI .u8 w' v' (l.take n)/\qu w' R (l.drop n) e C/\jt (λb=>b=R) w w':=by
 have au:=κ h;have af:=λo x=>Ke h o x
 have aj:=κ af;obtain⟨⟨v,I,Y,ab⟩,ax,am,aa⟩:=h;have ai:=κ ab;clear ab;have ag:=κ I;have O:=κ Y;obtain⟨N,cap,rfl,an,ao,ap,aq,ar⟩:=Y;have av:=β0 I;have aw:=yw I 0;have aB: ¬(l.length:Int)<(n:Int):=by omega
 have az:(n:Int)<=(cap:Int):=by omega
 have aC:(n:Int)<=(l.length:Int):=by omega
 have aA:(0:Int)<=(n:Int):=by omega
 have ah:=κ aa;clear I an ao ap aq ar aa af;have ae: ∀H d,(H=if cap=n then N else N.map (·.add n))->d=cap-n-> ∃v',Ending.returned (δ N n n)= .returned v'/\SlI .u8 (w.setCell ⟨R,0,ϋ⟩ (δ H (l.length-n) d)) v' (l.take n)/\qu (w.setCell ⟨R,0,ϋ⟩ (δ H (l.length-n) d)) R (l.drop n) e C/\jt (λb=>b=R) w (w.setCell ⟨R,0,ϋ⟩ (δ H (l.length-n) d)):=by
  intro H d U al;have J:jt (λb=>b=R) w (w.setCell ⟨R,0,ϋ⟩ (δ H (l.length-n) d)):=(jt.refl (λb=>b=R) w).set (p:=⟨R,0,ϋ⟩) rfl _;have ad: ∀b,b=R-> ∀o x,w.cell? ⟨b,o,ϋ⟩≠ϊ (υ x):=by rintro b rfl;exact aj.o
  subst al;exact⟨_,rfl,((O.o.take3 n ac).away J ad),⟨⟨_,qB (qp ag.o 0 _) rfl,(O.o.from_ n ac _ U).away J ad,λx g y=>ai.o (λz=>x (by rw[z];simp)) g (by subst U;exact Bx y)⟩,by simp;omega,am.drop n,λx=>by rw[ah.o x];simp⟩,J⟩
 have M:=κ ae;clear ae
 go_enter func110,ntmps110
 go_wp2
 all_goals (go_ret;first | exact M.o _ _ rfl rfl | exact M.o _ _ (by rw[ϐ τ]) τ | exact M.o _ _ (by rw[ώ τ]) rfl)
def kV (n:Int) (h:qu w R l e C):
  Calls prog 110 #[γ R,ι n] w λI w'=> ∃v',I= .returned v'/\SlI .u8 w' v' (tkB l n)/\qu w' R (tkL l n) (tkE l n e) C/\jt (λb=>b=R) w w':=by
 by_cases h0:n<=0
 ·refine(Wg n h0 h).mono ?_;rintro I w' ⟨rfl,rfl⟩;have O:n.toNat=0:=by omega
  have d:tkB l n=[]:=by unfold tkB;rw[O];split<;>simp
  have M:tkE l n e=e:=by unfold tkE;rw[ώ τ]
  have H:tkL l n=l:=by unfold tkL;rw[O];simp
  rw[d,M,H];exact⟨_,rfl,SlI.nil _ _,h,jt.refl _ _⟩
 ·by_cases h1:(l.length:Int)<n
  ·refine(Y9 n τ h1 h).mono ?_;rintro I w' ⟨rfl,N,J⟩;have d:tkB l n=[]:=by unfold tkB;rw[ώ τ]
   have H:tkL l n=[]:=by unfold tkL;exact I3 τ
   rw[d,H];exact⟨_,rfl,SlI.nil _ _,N,J⟩
  ·obtain⟨k,rfl⟩: ∃k:Nat,n=k:=⟨n.toNat,τ⟩;refine(KB k τ τ h).mono ?_;rintro I w' ⟨v',rfl,N,U,J⟩;have d:tkB l k=l.take k:=by unfold tkB;rw[ϐ τ];simp
   have H:tkL l k=l.drop k:=by unfold tkL;simp
   have M:tkE l k e=e:=by unfold tkE;rw[ώ τ]
   rw[d,M,H];exact⟨_,rfl,N,U,J⟩
def jL (h:Byt l) (n:Int):Byt (tkB l n):=by
 unfold tkB;split
 ·exact h.take _
 ·exact xh
def zh (l:List Int) (n:Int) (d:0<=n):((tkB l n).length:Int)<=n:=by
 unfold tkB;split
 ·rw[Ϡ];omega
 ·exact d
def zv (l:List Int) (k:Nat) (h:Byt l) (I:(l.length:Int)<=k) (H:k<=8):0<=num l/\num l<2 ^ (8* k):=by
 have d:=Yy l h;rw[uD l h τ];refine⟨d.1,K7 d.2 ?_⟩;have:2 ^ (8* l.length)<=2 ^ (8* k):=D6 ζ τ
 exact_mod_cast this
def Zl (h:qu w R l e C) (n:Nat) (ad:n<=1):
  Calls prog 109 #[.func (.func 110) #[γ R] #[],ι n] w λO w'=>O= .returned (υ (num (tkB l n)))/\qu w' R (tkL l n) (tkE l n e) C/\jt (λb=>b=R) w w':=by
 have I:=jL h.byt n;have d:=zv (tkB l n) n I (zh l n τ) τ;have J:(2:Int) ^ (8* n)<=2 ^ (8* 1):=by
  have:2 ^ (8* n)<=2 ^ (8* 1):=D6 ζ τ
  exact_mod_cast this
 have M:IntKind.u8.wrap (num (tkB l n))=num (tkB l n):=F5 d.1 (K7 d.2 J);have H:=κ M;clear M d J
 go_enter func109,ntmps109
 go_wp2_with first | (go_at_call 110;refine(kV n h).mono ?_;rintro ab w1 ⟨aa,rfl,Y,U,N⟩) | (go_at_call 167;refine(gg _ aa _ Y I).mono ?_;rintro ac w2 ⟨rfl,rfl⟩)
 go_ret;exact⟨by first | exact xV H.o | rfl | exact ϵ _ (by rw[H.o]),U,N⟩
def Jp (h:qu w R l e C) (n:Nat) (ad:n<=2):
  Calls prog 111 #[.func (.func 110) #[γ R] #[],ι n] w λO w'=>O= .returned (φ (num (tkB l n)))/\qu w' R (tkL l n) (tkE l n e) C/\jt (λb=>b=R) w w':=by
 have I:=jL h.byt n;have d:=zv (tkB l n) n I (zh l n τ) τ;have J:(2:Int) ^ (8* n)<=2 ^ (8* 2):=by
  have:2 ^ (8* n)<=2 ^ (8* 2):=D6 ζ τ
  exact_mod_cast this
 have M:IntKind.u16.wrap (num (tkB l n))=num (tkB l n):=F5 d.1 (K7 d.2 J);have H:=κ M;clear M d J
 go_enter func111,ntmps111
 go_wp2_with first | (go_at_call 110;refine(kV n h).mono ?_;rintro ab w1 ⟨aa,rfl,Y,U,N⟩) | (go_at_call 167;refine(gg _ aa _ Y I).mono ?_;rintro ac w2 ⟨rfl,rfl⟩)
 go_ret;exact⟨by first | exact xV H.o | rfl | exact ϵ _ (by rw[H.o]),U,N⟩
def ub (h:qu w R l e C) (n:Nat) (ad:n<=4):
  Calls prog 112 #[.func (.func 110) #[γ R] #[],ι n] w λO w'=>O= .returned (ω (num (tkB l n)))/\qu w' R (tkL l n) (tkE l n e) C/\jt (λb=>b=R) w w':=by
 have I:=jL h.byt n;have d:=zv (tkB l n) n I (zh l n τ) τ;have J:(2:Int) ^ (8* n)<=2 ^ (8* 4):=by
  have:2 ^ (8* n)<=2 ^ (8* 4):=D6 ζ τ
  exact_mod_cast this
 have M:IntKind.u32.wrap (num (tkB l n))=num (tkB l n):=F5 d.1 (K7 d.2 J);have H:=κ M;clear M d J
 go_enter func112,ntmps112
 go_wp2_with first | (go_at_call 110;refine(kV n h).mono ?_;rintro ab w1 ⟨aa,rfl,Y,U,N⟩) | (go_at_call 167;refine(gg _ aa _ Y I).mono ?_;rintro ac w2 ⟨rfl,rfl⟩)
 go_ret;exact⟨by first | exact xV H.o | rfl | exact ϵ _ (by rw[H.o]),U,N⟩
def jT (h:qu w R l e C):
  Calls prog 52 #[γ R] w λH w'=>H= .returned (υ (num (tkB l 1)))/\qu w' R (tkL l 1) (tkE l 1 e) C/\jt (λb=>b=R) w w':=by
 go_enter func52,ntmps52
 go_wp2_with (go_at_call 109;refine(Zl h 1 ζ).mono ?_;rintro J w1 ⟨rfl,I,d⟩)
 go_ret;exact⟨rfl,I,d⟩
def xn (h:qu w R l e C):
  Calls prog 53 #[γ R] w λH w'=>H= .returned (φ (num (tkB l 2)))/\qu w' R (tkL l 2) (tkE l 2 e) C/\jt (λb=>b=R) w w':=by
 go_enter func53,ntmps53
 go_wp2_with (go_at_call 111;refine(Jp h 2 ζ).mono ?_;rintro J w1 ⟨rfl,I,d⟩)
 go_ret;exact⟨rfl,I,d⟩
def Je (h:qu w R l e C):
  Calls prog 328 #[γ R] w λH w'=>H= .returned (ω (num (tkB l 3)))/\qu w' R (tkL l 3) (tkE l 3 e) C/\jt (λb=>b=R) w w':=by
 go_enter func328,ntmps328
 go_wp2_with (go_at_call 112;refine(ub h 3 ζ).mono ?_;rintro J w1 ⟨rfl,I,d⟩)
 go_ret;exact⟨rfl,I,d⟩
def jD (h:qu w R l e C):
  Calls prog 54 #[γ R] w λH w'=>H= .returned (ω (num (tkB l 4)))/\qu w' R (tkL l 4) (tkE l 4 e) C/\jt (λb=>b=R) w w':=by
 go_enter func54,ntmps54
 go_wp2_with (go_at_call 112;refine(ub h 4 ζ).mono ?_;rintro J w1 ⟨rfl,I,d⟩)
 go_ret;exact⟨rfl,I,d⟩
def Vm (l:List Int) (n:Int):(tkB l n).length<=l.length:=by
 unfold tkB;split
 ·rw[Ϡ];omega
 ·simp
def kq {d e size:Nat} (h:w.ownsRow base e size v n xs) (J:d<=base):w.ownsRow d e size v n xs:=by
 obtain⟨H,I⟩:=h;refine⟨H, ?_⟩;rcases I with h | ⟨b,cap,cur,e1,hb',rest⟩
 ·exact ϑ h
 ·exact ϕ ⟨b,cap,cur,e1,Ϙ J hb',rest⟩
def QI (n:Int) (h:qu w R l e C):
  Calls prog 56 #[γ R,ι n] w λI w'=> ∃v',I= .returned v'/\w'.ownsRow w.heap.size 5 1 v' (tkB l n).length ((tkB l n).map (Value.int .u8))/\qu w' R (tkL l n) (tkE l n e) C/\jt (λb=>b=R) w w':=by
 have ab:=Vm l n;have aa:=h.small
 go_enter func56,ntmps56
 go_wp2_with first | (go_at_call 110;refine(kV n h).mono ?_;rintro U w1 ⟨O,rfl,N,J,d⟩) | (go_at_call 50;refine(Od O _ _ N τ).mono ?_;rintro Y w2 ⟨ac,rfl,M,H⟩)
 go_ret;exact⟨_,rfl,kq M d.size,J.more H,d.more H⟩
def yT (h:qu w R l e C):
  Calls prog 59 #[γ R] w λH w'=>H= .returned (ι (if ¬e=0 then e else if 0<l.length then 4 else 0))/\w'=w:=by
 obtain⟨⟨v,d,⟨O,cap,rfl,_⟩,_⟩,_,_,M⟩:=h;have J:=β0 d;have c1:=β1 d;clear d;by_cases he:e=0
 ·subst he;by_cases hl:0<l.length
  ·have I:(0:Int)<(l.length:Int):=by omega
   go_enter func59,ntmps59
   go_wp2;go_ret;simp[hl]
  ·have I: ¬(0:Int)<(l.length:Int):=by omega
   go_enter func59,ntmps59
   go_wp2;go_ret;simp[hl]
 ·have N:(e != 0)=ό:=by simpa using he
  go_enter func59,ntmps59
  go_wp2;go_ret;simp[he]
abbrev U16 (n:Int):Prop:=0<=n/\n<=65535
def qK (n s:Int) (d:0<=s/\s<=8):(qy n s).length=s.toNat:=by
 rw[gQ n s d,zP]
def Xi (x:Int) (k:Nat) (I:0<=x) (H:k<=8) (h:x<2 ^ (8* k)):num (qy x k)=x:=by
 have d:qy x k=bys x k:=by rw[gQ _ _ τ];simp
 rw[d,uD _ (JF _ _) (by rw[zP];exact H),VA];exact F5 I h
def uM {n:Int} (d:0<=n) (h:n<=l.length):l=tkB l n++tkL l n/\((tkB l n).length:Int)=n:=by
 unfold tkB tkL;rw[ϐ h];refine⟨(B6 _ _).symm, ?_⟩;rw[Ϡ];omega
def gR (h:Byt l) (k:Nat) (I:(l.length:Int)=k) (H:k<=8):qy (num l) k=l:=by
 have d:l.length=k:=by omega
 rw[gQ _ _ τ];simp only[Ψ];rw[<-d];exact qbB l h τ
abbrev RdS:=List Int×Int
variable {s:RdS}
def wrS (s:RdS) (x:Int):RdS:=if x=0∨ ¬s.2=0 then s else ([],x)
def tkS (s:RdS) (n:Int):RdS:=(tkL s.1 n,tkE s.1 n s.2)
def zo (h:qu w R s.1 s.2 C) (x:Int):
  Calls prog 55 #[γ R,ι x] w λd w'=>d= .returned (.tuple #[])/\qu w' R (wrS s x).1 (wrS s x).2 C/\jt (λb=>b=R) w w':=by
 obtain⟨l,e⟩:=s;simp only at h;by_cases hx:x=0
 ·refine(gf h x (ϑ hx)).mono ?_;rintro d w' ⟨rfl,rfl⟩;have:wrS (l,e) x=(l,e):=by unfold wrS;rw[ϐ (ϑ hx)]
  rw[this];exact⟨rfl,h,jt.refl _ _⟩
 ·by_cases he:e=0
  ·subst he;refine(Jd h x hx).mono ?_;rintro d w' ⟨rfl,I,H⟩;have:wrS (l,0) x=([],x):=by unfold wrS;rw[ώ (by simp[hx])]
   rw[this];exact⟨rfl,I,H⟩
  ·refine(gf h x (ϕ ⟨hx,he⟩)).mono ?_;rintro d w' ⟨rfl,rfl⟩;have:wrS (l,e) x=(l,e):=by unfold wrS;rw[ϐ (ϕ he)]
   rw[this];exact⟨rfl,h,jt.refl _ _⟩
abbrev U32 (n:Int):Prop:=0<=n/\n<=4294967295
def adv (s:RdS) (n:Nat):RdS:=if s.2=0 then (if n<=s.1.length then (s.1.drop n,0) else ([],3)) else ([],s.2)
def Jm (s:RdS):Prop:= ¬s.2=0->s.1=[]
def gz (n:Nat) (h:Jm s):tkS s n=adv s n:=by
 obtain⟨l,e⟩:=s;unfold tkS adv tkL tkE;simp only[Ψ];by_cases he:e=0
 ·subst he;rw[ϐ rfl];by_cases hn:n<=l.length
  ·rw[ϐ hn,ώ τ]
  ·rw[ώ hn,ϐ τ,I3 τ]
 ·have d:l=[]:=h he;subst d;rw[ώ he,ώ (λx=>he x.2)];simp
def vj (s:RdS) (n:Nat):Jm (adv s n):=by
 unfold Jm adv;split
 ·split
  ·intro h;exact ϩ rfl h
  ·intro _;rfl
 ·intro _;rfl
def gG (s:RdS) (a b:Nat):adv (adv s a) b=adv s (a+b):=by
 obtain⟨l,e⟩:=s;unfold adv;simp only;by_cases he:e=0
 ·subst he;simp only[A7];by_cases ha:a<=l.length
  ·rw[ϐ ha];simp only[A7,Ϣ,T7];by_cases hb:a+b<=l.length
   ·rw[ϐ τ,ϐ hb]
   ·rw[ώ τ,ώ hb]
  ·rw[ώ ha];simp;omega
 ·rw[ώ he,ώ he];simp[he]
def xF (a b:Nat):tkS (adv s a) b=adv s (a+b):=by rw[gz b (vj s a),gG]
def Cu (h:Jm s):adv s 0=s:=by
 obtain⟨l,e⟩:=s;unfold adv;by_cases he:e=0
 ·subst he;simp
 ·have d:l=[]:=h he;subst d;simp[he]
def QH (x:Int):qy (x%16777216) 3=qy x 3:=by
 have h: ∀j,j<3->by8 (x%16777216) j=by8 x j:=by
  intro j d;unfold by8
  match j,d with
  | 0,_=>simp
  | 1,_=>simp;omega
  | 2,_=>simp;omega
 show [by8 (x%16777216) 2,by8 (x%16777216) 1,by8 (x%16777216) 0]=[by8 x 2,by8 x 1,by8 x 0];rw[h 0 ζ,h 1 ζ,h 2 ζ]
def JY (x:Int) (k:Nat) (H:k<=8) (r:List Int):tkS (qy x k++r,0) k=(r,0)/\tkB (qy x k++r) k=qy x k:=by
 have d:((qy x k).length:Int)=k:=by rw[qK _ _ τ];simp
 have a:=Eh (qy x k) r;have b:=Ef (qy x k) r;have c:=Eg (qy x k) r 0;rw[d] at a b c;unfold tkS;simp only[a,b,c,and_self]
def wU (k:Nat) (H:k<=8) (d:Byt L) (h:k<=L.length): ∃x r,L=qy x k++r/\0<=x/\x<2 ^ (8* k)/\Byt r:=by
 obtain⟨j,q⟩:=uM (l:=L) (n:=(k:Int)) τ τ;have I:=zv (tkB L k) k (jL d k) τ H;refine⟨num (tkB L k),tkL L k, ?_,I.1,I.2,d.drop _⟩;rw[gR (jL d k) k q H];exact j
def xv (M:Byt L) (h:4<=L.length): ∃x r,L=qy x 4++r/\U32 x/\Byt r:=by
 obtain⟨x,r,H,I,d,J⟩:=wU 4 ζ M h;have d:x<4294967296:=d;exact⟨x,r,H,⟨I,τ⟩,J⟩
structure Pk where
 mr:Bool
 ty:Int
 sq:Int
 st:Int
 sc:Int
 ss:List Int
 has:Bool
 pr:Int
 ex:List Int
 pl:List Int
def pk0:Pk:=⟨ύ,0,0,0,0,[],ύ,0,[],[]⟩
structure uf (p:Pk):Prop where
 ty:0<=p.ty/\p.ty<=255
 sq:U16 p.sq
 st:U32 p.st
 sc:U32 p.sc
 ss: ∀i,U32 (p.ss.getD i 0)
 pr:U16 p.pr
 ex:Byt p.ex
 pl:Byt p.pl
def ww (p:Pk):Int:=12+4* (p.ss.length:Int)+(p.pl.length:Int)+if p.has then 4+(p.ex.length:Int) else 0
def jJ (p:Pk):Bool:=decide (p.ty<=127)&&decide ((p.ss.length:Int)<=15)&&(p.has||(decide (p.pr=0)&&decide (p.ex=[])))&&decide ((p.ex.length:Int)%4=0)&&decide (ww p<=200)
def yq (p:Pk):jJ p=ό↔p.ty<=127/\(p.ss.length:Int)<=15/\(p.has=ύ->p.pr=0/\p.ex=[])/\(p.ex.length:Int)%4=0/\ww p<=200:=by
 unfold jJ;cases h:p.has<;>simp[and_assoc]
def CT (p:Pk):Int:=128+(p.ss.length:Int)+if p.has then 16 else 0
def CN (p:Pk):Int:=p.ty+if p.mr then 128 else 0
def ssB (l:List Int):List Int:=l.flatMap λx=>qy x 4
def AP (l:List Int) (x:Int):ssB (l++[x])=ssB l++qy x 4:=by simp[ssB]
def WE (l:List Int):(ssB l).length=4* l.length:=by
 induction l with
 | nil=>rfl
 | cons x l ih=>
  show (qy x 4++ssB l).length=_;rw[Ϗ,ih,qK _ _ ζ,ϙ];show 4+4* l.length=_;omega
def CV (p:Pk):List Int:=qy (CT p) 1++qy (CN p) 1++qy p.sq 2++qy p.st 4++qy p.sc 4
def Hz (p:Pk):List Int:=qy p.pr 2++qy ((p.ex.length:Int)/4) 2++p.ex
def DB (p:Pk):List Int:=CV p++ssB p.ss++if p.has then Hz p else []
def pkB (p:Pk):List Int:=DB p++p.pl
def j9:Nat->RdS->List Int×RdS
 | 0,s=>([],s)
 | n+1,s=>((j9 n s).1++[num (tkB (j9 n s).2.1 4)],tkS (j9 n s).2 4)
def xL (b:List Int):List Int×Bool:=
 if b=[] then ([],ύ) else if b.getD (b.length-1) 0=0∨(b.length:Int)<b.getD (b.length-1) 0 then ([],ύ) else (b.take (b.length-(b.getD (b.length-1) 0).toNat),ό)
def vB (f:Int) (s:RdS):List Int×Int:=
 if ¬s.2=0 then ([],s.2) else if f/32%2=1 then (if (xL s.1).2 then ((xL s.1).1,0) else ([],2)) else (s.1,0)
def Qj (s:RdS):(Int×List Int)×RdS:=((num (tkB s.1 2),tkB (tkS (tkS s 2) 2).1 (4* num (tkB (tkS s 2).1 2))),tkS (tkS (tkS s 2) 2) (4* num (tkB (tkS s 2).1 2)))
def yj (f:Int) (s:RdS):(List Int×Int×List Int)×RdS:=
 if f/16%2=1 then (((j9 (f%16).toNat s).1,(Qj (j9 (f%16).toNat s).2).1.1,(Qj (j9 (f%16).toNat s).2).1.2),(Qj (j9 (f%16).toNat s).2).2)
 else (((j9 (f%16).toNat s).1,0,[]),(j9 (f%16).toNat s).2)
def s1H (b:List Int):RdS:=tkS (b,0) 1
def s2H (b:List Int):RdS:=tkS (s1H b) 1
def s3H (b:List Int):RdS:=tkS (s2H b) 2
def s4H (b:List Int):RdS:=tkS (s3H b) 4
def s5H (b:List Int):RdS:=tkS (s4H b) 4
def yy (f:Int) (s:RdS):RdS:=if f<128∨191<f then wrS s 2 else s
def fH (b:List Int):Int:=num (tkB b 1)
def gH (b:List Int):Int:=num (tkB (s1H b).1 1)
def mkH (b:List Int) (x:List Int×Int×List Int) (l:List Int):Pk:=
 ⟨decide (128<=gH b),gH b%128,num (tkB (s2H b).1 2),num (tkB (s3H b).1 4),num (tkB (s4H b).1 4),x.1,decide (fH b/16%2=1),x.2.1,x.2.2,l⟩
def JJ (b:List Int) (x:(List Int×Int×List Int)×RdS):Pk×Int:=
 if (vB (fH b) x.2).2=0 then (mkH b x.1 (vB (fH b) x.2).1,0) else (pk0,(vB (fH b) x.2).2)
def jl (b:List Int):Pk×Int:=
 if (200:Int)<b.length then (pk0,4) else JJ b (yj (fH b) (yy (fH b) (s5H b)))
def WI (b:List Int):s5H b=adv (b,0) 12:=by
 have h:Jm (b,0):=λh=>ϩ rfl h
 show tkS (tkS (tkS (tkS (tkS (b,0) (1:Nat)) (1:Nat)) (2:Nat)) (4:Nat)) (4:Nat)=_;rw[gz 1 h,xF,xF,xF,xF]
def gN: ∀(n:Nat) (s:RdS),(j9 n s).1.length=n
 | 0,_=>rfl
 | n+1,s=>by
  show ((j9 n s).1++[_]).length=_;rw[Ϗ,gN n];rfl
def WB (e n:Int) (h: ¬e=0):tkS ([],e) n=([],e):=by
 unfold tkS;rw[tkL_nil',tkE_bad h]
where
 tkL_nil':tkL ([]:List Int) n=[]:=by unfold tkL;simp
 tkE_bad (he: ¬e=0):tkE [] n e=e:=by unfold tkE;rw[ώ (λx=>he x.2)]
def Xd (e:Int) (h: ¬e=0): ∀n,(j9 n ([],e)).2=([],e)
 | 0=>rfl
 | n+1=>by
  show tkS (j9 n ([],e)).2 4=_;rw[Xd e h n,WB e 4 h]
def GH (f e:Int) (h: ¬e=0):(yj f ([],e)).2=([],e):=by
 unfold yj Qj;split
 ·simp only[Xd e h,WB e _ h]
 ·simp only[Xd e h]
def VS (b:List Int) (f e:Int) (h: ¬e=0):JJ b (yj f ([],e))=(pk0,e):=by
 have d:vB (fH b) (yj f ([],e)).2=([],e):=by
  rw[GH f e h];unfold vB;rw[ϐ h]
 unfold JJ;rw[d];simp only;rw[ώ h]
def Ry (b:List Int):Pk×Int:=
 if (200:Int)<b.length then (pk0,4) else if (b.length:Int)<12 then (pk0,3) else if fH b<128∨191<fH b then (pk0,2) else JJ b (yj (fH b) (b.drop 12,0))
def GP (b:List Int):Ry b=jl b:=by
 unfold Ry jl;by_cases h1:(200:Int)<b.length
 ·rw[ϐ h1,ϐ h1]
 rw[ώ h1,ώ h1];have d:s5H b=if 12<=b.length then (b.drop 12,0) else ([],3):=by
  rw[WI];unfold adv;simp
 by_cases h2:(b.length:Int)<12
 ·rw[ϐ h2];rw[ώ τ] at d;have:yy (fH b) ([],3)=([],3):=by unfold yy wrS;simp
  rw[d,this,VS b _ 3 ζ]
 rw[ώ h2];rw[ϐ τ] at d;rw[d];by_cases h3:fH b<128∨191<fH b
 ·rw[ϐ h3];have:yy (fH b) (b.drop 12,0)=([],2):=by unfold yy wrS;rw[ϐ h3];simp
  rw[this,VS b _ 2 ζ]
 ·rw[ώ h3];have:yy (fH b) (b.drop 12,0)=(b.drop 12,0):=by unfold yy;rw[ώ h3]
  rw[this]
def Cl (p:Pk):(CV p).length=12:=by
 unfold CV;simp only[Ϗ,qK _ 1 ζ,qK _ 2 ζ,qK _ 4 ζ]
 decide
def Bp (p:Pk):((DB p).length:Int)=12+4* (p.ss.length:Int)+if p.has then 4+(p.ex.length:Int) else 0:=by
 unfold DB;rw[Ϗ,Ϗ,Cl,WE];cases p.has
 ·simp
 ·simp only[A7,Hz,Ϗ,qK _ 2 ζ];show ((12+4* p.ss.length+(2+2+p.ex.length):Nat):Int)=_;omega
def Ey (p:Pk):((pkB p).length:Int)=ww p:=by
 unfold pkB ww;rw[Ϗ];have:=Bp p;omega
def Γh (x:Pk) (a:Option Addr) (b:Nat) (c:Option Addr) (d:Nat) (e:Option Addr) (f:Nat):Mm:=.o
instance (x:Pk) (a:Option Addr) (b:Nat) (c:Option Addr) (d:Nat) (e:Option Addr) (f:Nat):CoeDep Mm (Γh x a b c d e f) (List Value):=⟨[μ x.mr,υ x.ty,φ x.sq,ω x.st,ω x.sc,δ a x.ss.length b,μ x.has,φ x.pr,δ c x.ex.length d,δ e x.pl.length f]⟩
instance (x:Pk) (a:Option Addr) (b:Nat) (c:Option Addr) (d:Nat) (e:Option Addr) (f:Nat):CoeDep Mm (Γh x a b c d e f) (Array Value):=⟨((Γh x a b c d e f):List Value).toArray⟩
instance (x:Pk) (a:Option Addr) (b:Nat) (c:Option Addr) (d:Nat) (e:Option Addr) (f:Nat):CoeDep Mm (Γh x a b c d e f) Value:=⟨θ (Γh x a b c d e f)⟩
def Γi (k:Int) (l:Int) (n:Int) (x:Pk) (a:Option Addr) (b:Nat) (c:Option Addr) (d:Nat) (e:Option Addr) (f:Nat):Mm:=.o
instance (k:Int) (l:Int) (n:Int) (x:Pk) (a:Option Addr) (b:Nat) (c:Option Addr) (d:Nat) (e:Option Addr) (f:Nat):CoeDep Mm (Γi k l n x a b c d e f) (List Value):=⟨[ι k,ι l,ι n,μ x.mr,υ x.ty,φ x.sq,ω x.st,ω x.sc,δ a x.ss.length b,μ x.has,φ x.pr,δ c x.ex.length d,δ e x.pl.length f]⟩
instance (k:Int) (l:Int) (n:Int) (x:Pk) (a:Option Addr) (b:Nat) (c:Option Addr) (d:Nat) (e:Option Addr) (f:Nat):CoeDep Mm (Γi k l n x a b c d e f) (Array Value):=⟨((Γi k l n x a b c d e f):List Value).toArray⟩
instance (k:Int) (l:Int) (n:Int) (x:Pk) (a:Option Addr) (b:Nat) (c:Option Addr) (d:Nat) (e:Option Addr) (f:Nat):CoeDep Mm (Γi k l n x a b c d e f) Value:=⟨θ (Γi k l n x a b c d e f)⟩
def Γq (x:Pk) (a:Value) (b:Value) (c:Value):Mm:=.o
instance (x:Pk) (a:Value) (b:Value) (c:Value):CoeDep Mm (Γq x a b c) (List Value):=⟨[μ x.mr,υ x.ty,φ x.sq,ω x.st,ω x.sc,a,μ x.has,φ x.pr,b,c]⟩
instance (x:Pk) (a:Value) (b:Value) (c:Value):CoeDep Mm (Γq x a b c) (Array Value):=⟨((Γq x a b c):List Value).toArray⟩
instance (x:Pk) (a:Value) (b:Value) (c:Value):CoeDep Mm (Γq x a b c) Value:=⟨θ (Γq x a b c)⟩
def Γr (k:Int) (l:Int) (n:Int) (x:Pk) (a:Value) (b:Value) (c:Value):Mm:=.o
instance (k:Int) (l:Int) (n:Int) (x:Pk) (a:Value) (b:Value) (c:Value):CoeDep Mm (Γr k l n x a b c) (List Value):=⟨[ι k,ι l,ι n,μ x.mr,υ x.ty,φ x.sq,ω x.st,ω x.sc,a,μ x.has,φ x.pr,b,c]⟩
instance (k:Int) (l:Int) (n:Int) (x:Pk) (a:Value) (b:Value) (c:Value):CoeDep Mm (Γr k l n x a b c) (Array Value):=⟨((Γr k l n x a b c):List Value).toArray⟩
instance (k:Int) (l:Int) (n:Int) (x:Pk) (a:Value) (b:Value) (c:Value):CoeDep Mm (Γr k l n x a b c) Value:=⟨θ (Γr k l n x a b c)⟩
def XV {P:Program} {o:Oper} {C:World->Prop} (s x:Operand) (t:TypeId)
  (al:o.op= .call {callee:= .builtin .append,args:= #[s,x],argTypes:= #[t,t]})
  (base:Nat) (e:TypeId) (i:TypeInfo) (z:Value) (bytes:Nat) (aq:P.underlying t=ϊ (.slice e)) (hi:P.info? e=ϊ i) (av:i.zero=ϊ z)
  (ap:i.size=1) (af:i.bytes=bytes) (aw:z.cells.size=1)
  (v:Value) (k:IntKind) (l:List Int) (ao:a.eval s=v) (am:w.ownsRow base e 1 v l.length (l.map (Value.int k)))
  (H:Addr) (cap:Nat) (d:List Int) (au:a.eval x= δ (ϊ H) d.length cap) (ai:SlI k w (δ (ϊ H) d.length cap) d)
  (ag:(l.length+d.length)* bytes<=140737488355328) (ay:1<=bytes) (ae:base<=w.heap.size)
  (h: ∀v' w',w'.ownsRow base e 1 v' (l++d).length ((l++d).map (Value.int k))->w.grownBy w' v.ownBlock->(v'.ownBlock=v.ownBlock∨v'.ownBlock=ϊ w.heap.size)->C w'/\K (a.put o.dst v') w'):jn P C o a w K:=by
 have ad:l.length+d.length<=maxLen:=by
  have:=J6 (l.length+d.length) (show 0<bytes by omega);unfold maxLen;omega
 obtain⟨aE,ax,O,az,aj,aA,aB,aC⟩:=ai;cases O
 obtain⟨v',w',an,aa,ab,_,ac⟩:=run_append_own_at (P:=P) w base t o.type e i z 1 bytes aq hi av ap af aw ζ v l.length (l.map (Value.int k)) am H d.length cap (d.map (Value.int k)) η (by
  intro j u J;rw[G7] at J;obtain⟨y,M,rfl⟩:=N2.1 J;obtain⟨ak,aD⟩:=ϟ.1 M;obtain⟨b,N,I,_,ah⟩:=aj j ak;simp only[G8] at I;subst I;have U:(⟨b,N,ϋ⟩:Addr).add j=⟨b,N+j,ϋ⟩:=by
   unfold Addr.add;split
   ·rename_i Y;subst Y;rfl
   ·rfl
  rw[U,ah,ϒ,M];rfl) (by
  intro u ar;obtain⟨y,_,rfl⟩:=E0.1 ar
  rfl) ad ag ae
 unfold jn execOp;simp only[al,resolve,invoke,builtin,Sem.run_bind,Sem.run_pure,Result.andThen_ok,K2,Ϟ,D4,ao,au,an];exact h v' w' (by simpa using aa) ab ac
def XU {P:Program} {o:Oper} {C:World->Prop} (s x:Operand) (t:TypeId)
  (M:o.op= .call {callee:= .builtin .append,args:= #[s,x],argTypes:= #[t,t]})
  (base:Nat) (e:TypeId) (i:TypeInfo) (z:Value) (bytes:Nat) (O:P.underlying t=ϊ (.slice e)) (hi:P.info? e=ϊ i) (al:i.zero=ϊ z)
  (ak:i.size=1) (ab:i.bytes=bytes) (am:z.cells.size=1)
  (v:Value) (k:IntKind) (l:List Int) (N:a.eval s=v) (H:w.ownsRow base e 1 v l.length (l.map (Value.int k)))
  (U:Value) (d:List Int) (I:a.eval x=U) (J:SlI k w U d)
  (ae:(l.length+d.length)* bytes<=140737488355328) (ac:1<=bytes) (aa:base<=w.heap.size)
  (h: ∀v' w',w'.ownsRow base e 1 v' (l++d).length ((l++d).map (Value.int k))->w.grownBy w' v.ownBlock->(v'.ownBlock=v.ownBlock∨v'.ownBlock=ϊ w.heap.size)->C w'/\K (a.put o.dst v') w'):jn P C o a w K:=by
 have ag:=J;obtain⟨an,cap,rfl,ao,ap,aq,ar,ah⟩:=J;cases an with
 | some ad=>exact XV s x t M base e i z bytes O hi al ak ab am v k l N H ad cap d I ag ae ac aa h
 | none=>
  have Y:cap=0:=ah rfl;subst Y;have ai:d=[]:=Ϥ τ;subst ai;have aj:=run_append_owned_none (P:=P) (w:=w) base t o.type e i 1 O hi v l.length (l.map (Value.int k)) H;have af:=h v w (by simpa using H) ⟨rfl,rfl,rfl,ϔ _,λ_ _ _=>rfl⟩ (ϑ rfl);simp only[ϧ] at I;unfold jn execOp;simp only[M,resolve,invoke,builtin,Sem.run_bind,Sem.run_pure,Result.andThen_ok,K2,Ϟ,D4,N,I,aj];exact af
inductive Tr where
 | done
 | op (k:Nat) (b:Bool) (t:Tr)
 | br (ks:List Nat) (f:Nat->Tr)
def Tr.has:Nat->Tr->Bool
 | 0,.done=>ό
 | n+1,.op _ _ t=>t.has n
 | n+1,.br ks f=>ks.all λk=>(f k).has n
 | _,_=>ύ
section
variable {P:Program} {ops:Array Oper} {md:Region.Mode} {C:World->Prop}
def trB (md:Region.Mode) (ops:Array Oper) (T:Nat):Tr->Array Bool->Bool
 | .done,listed=>(Region.ready md ops listed).isEmpty
 | .op k ό t,listed=>decide (k<ops.size)&&decide (Region.ready md ops listed=[k])&&trB md ops T t (listed.setIfInBounds k ό)
 | .op k ύ t,listed=>decide (k<ops.size)&&(Region.ready md ops listed).contains k&&Region.free md ops listed k&&((ops[k]?).map (JU ·.op)).getD ύ&&Wq md ops T k&&trB md ops T t (listed.setIfInBounds k ό)
 | .br ks f,listed=> !ks.isEmpty&&decide (Region.ready md ops listed=ks)&&ks.all λk=>decide (k<ops.size)&&trB md ops T (f k) (listed.setIfInBounds k ό)
def zk (P:Program) (ops:Array Oper) (T:Nat) (C:World->Prop) (Q:Act->World->Prop):Tr->Act->World->Prop
 | .done,a,w=>Q a w
 | .op k ό t,a,w=>if Region.wanted (ops[k]?.getD default) (yielded ops a.tmps) then jn P (Dem T C k) (ops[k]?.getD default) a w (zk P ops T C Q t) else C w/\zk P ops T C Q t (a.put (ops[k]?.getD default).dst undef) w
 | .op k ύ t,a,w=>C w/\if Region.wanted (ops[k]?.getD default) (yielded ops a.tmps) then (ops[k]?.getD default).quiet P a C (λa'=>zk P ops T C Q t a' w) else zk P ops T C Q t (a.put (ops[k]?.getD default).dst undef) w
 | .br ks f,a,w=> ∀k∈ks,if Region.wanted (ops[k]?.getD default) (yielded ops a.tmps) then jn P (Dem T C k) (ops[k]?.getD default) a w (zk P ops T C Q (f k)) else C w/\zk P ops T C Q (f k) (a.put (ops[k]?.getD default).dst undef) w
def yQ {T:Nat} {Q:Act->World->Prop} (N:Region.noSelect ops=ό): ∀(n:Nat) (t:Tr) (listed:Array Bool) (a:Act) (w:World),t.has n=ό->
  trB md ops T t listed=ό->zk P ops T C Q t a w->Qp P md ops T C Q n listed a w
 | 0,.done,_,_,_,_,hB,h=>⟨by simpa [trB] using hB,h⟩
 | 0,.op ..,_,_,_,hh,_,_=>by simp[Tr.has] at hh
 | 0,.br ..,_,_,_,hh,_,_=>by simp[Tr.has] at hh
 | _+1,.done,_,_,_,hh,_,_=>by simp[Tr.has] at hh
 | n+1,.op k ό t,listed,a,w,hh,hB,h=>by
  simp only[trB,B4,B3] at hB;obtain⟨⟨O,M⟩,J⟩:=hB;have I:ops[k]? =ϊ (ops[k]?.getD default):=by simp[O]
  generalize ops[k]?.getD default=o at I;refine⟨λd=>(by rw[M] at d;cases d),λi hi=> ?_⟩;rw[M] at hi;obtain rfl:i=k:=by simpa using hi
  unfold yn;unfold zk at h;simp only[I,ϣ] at h ⊢;split
  ·rename_i H;rw[ϐ H] at h;exact wj (λa' w' _ U=>yQ N n t _ a' w' hh J U) h
  ·rename_i H;rw[ώ H] at h;exact⟨yF h.1,yQ N n t _ _ w hh J h.2⟩
 | n+1,.op k ύ t,listed,a,w,hh,hB,h=>by
  simp only[trB,B4,B3] at hB;obtain⟨⟨⟨⟨⟨O,M⟩,ad⟩,Y⟩,af⟩,J⟩:=hB;have I:ops[k]? =ϊ (ops[k]?.getD default):=by simp[O]
  generalize ops[k]?.getD default=o at I;rw[I] at Y;simp only[C3,ϣ] at Y;unfold zk at h;simp only[I,ϣ] at h;obtain⟨ab,h⟩:=h;obtain⟨v,ag,ac⟩: ∃v,gp P ops C o v a/\zk P ops T C Q t (a.put o.dst v) w:=by
   by_cases H:Region.wanted o (yielded ops a.tmps)=ό
   ·rw[ϐ H] at h;exact wI Y H h
   ·rw[ώ H] at h;exact⟨undef,.inr ⟨by simpa using H,rfl⟩,h⟩
  exact gU I (Region.noSelect_spec N) (Xw af) n listed a w ab (Region.free_spec I ad) (by simpa using M) ag
   (yQ N n t _ _ w hh J ac)
 | n+1,.br ks f,listed,a,w,hh,hB,h=>by
  simp only[trB,B4,B3,I4] at hB;obtain⟨⟨ae,M⟩,J⟩:=hB;simp only[Tr.has,I4] at hh;refine⟨λd=>(by rw[M] at d;subst d;simp at ae),λi hi=> ?_⟩
  ·rw[M] at hi;have O:=(J i hi).1;have aa:=(J i hi).2;have d:=h i hi;have I:ops[i]? =ϊ (ops[i]?.getD default):=by simp[O]
   generalize ops[i]?.getD default=o at I;unfold yn;simp only[I,ϣ] at d ⊢;split
   ·rename_i H;rw[ϐ H] at d;exact wj (λa' w' _ U=>yQ N n (f i) _ a' w' (hh i hi) aa U) d
   ·rename_i H;rw[ώ H] at d;exact⟨yF d.1,yQ N n (f i) _ _ w (hh i hi) aa d.2⟩
end
section
variable {P:Program} {C:World->Prop} {l:List Oper} {T:Nat} {Q:Act->World->Prop} {k:Nat} {b:Bool} {o:Oper} {t:Tr} {a:Act} {w:World}
def zg (h:Q a w):zk P l.toArray T C Q .done a w:=h
def qH (H:l[k]? =ϊ o) (I:Region.wanted o (yielded l.toArray a.tmps)=ό) (d:C w) (h: ∀K:Act->Prop,(∀a,zk P l.toArray T C Q t a w->K a)->o.quiet P a C K):zk P l.toArray T C Q (.op k ύ t) a w:=by
 unfold zk;simp only[A4,H,ϣ];rw[ϐ I];exact⟨d,h _ (λa h=>h)⟩
def jg (H:l[k]? =ϊ o) (I:Region.wanted o (yielded l.toArray a.tmps)=ύ) (d:C w) (h:zk P l.toArray T C Q t (a.put o.dst undef) w):zk P l.toArray T C Q (.op k b t) a w:=by
 cases b
 all_goals
  unfold zk;simp only[A4,H,ϣ];rw[ώ (by rw[I];exact Bool.false_ne_true)];exact⟨d,h⟩
def qO (d:l[k]? =ϊ o) (H:Region.wanted o (yielded l.toArray a.tmps)=ό) (h: ∀K:Act->World->Prop,(∀a w,zk P l.toArray T C Q t a w->K a w)->jn P C o a w K):zk P l.toArray T C Q (.op k ό t) a w:=by
 unfold zk;simp only[A4,d,ϣ];rw[ϐ H];exact zm (λ_ h=>yF h) (h _ λa w h=>h)
def wP {i j:Nat} {t':Tr} (I:i≠j) (hi:zk P l.toArray T C Q (.op i ό t) a w) (H:zk P l.toArray T C Q (.op j ό t') a w):zk P l.toArray T C Q (.br [i,j] λk=>if k=i then t else t') a w:=by
 unfold zk at *;intro k d;simp at d;rcases d with rfl | rfl
 ·simpa using hi
 ·have: ¬k=i:=λe=>I e.symm
  simpa [this] using H
end
def gT {P:Program} {id:Nat} {l:List Oper} {C:World->Prop} (T:Nat) (t:Tr) (N:P.follows .mixedOrders=ό)
  (d:(Region.noSelect l.toArray&&trB .any l.toArray T t (Array.replicate l.length ύ)&&t.has l.length)=ό)
  (h:zk P l.toArray T C (Q .normal) t a (w.drewN 1)):(Code.region id l.toArray ό).wp P Q a w:=by
 simp only[B4] at d;obtain⟨⟨H,I⟩,J⟩:=d;refine wp_region_any N (wT (T:=T) (C:=C) (Q:=Q .normal) (λ_ _ h=>h) _ _ _ _ ?_);have M:l.toArray.size=l.length:=by simp
 rw[M];exact yQ H _ t _ a _ J I h
def zB {P:Program} {id:Nat} {l:List Oper} (d:World) (T:Nat) (t:Tr) (I:P.follows .mixedOrders=ό)
  (H:(Region.noSelect l.toArray&&trB .any l.toArray T t (Array.replicate l.length ύ)&&t.has l.length)=ό)
  (h:zk P l.toArray T (λw'=> ∃x:qt d,w'=x.w') (Q .normal) t a (w.drewN 1)):(Code.region id l.toArray ό).wp P Q a w:=
 gT (C:=λw'=> ∃x:qt d,w'=x.w') T t I H h
def wC {P:Program} {id:Nat} {l:List Oper} (S:Nat->Prop) (d:World) (T:Nat) (t:Tr) (I:P.follows .mixedOrders=ό)
  (H:(Region.noSelect l.toArray&&trB .any l.toArray T t (Array.replicate l.length ύ)&&t.has l.length)=ό)
  (h:zk P l.toArray T (λw'=> ∃x:qz S d,w'=x.w') (Q .normal) t a (w.drewN 1)):(Code.region id l.toArray ό).wp P Q a w:=
 gT (C:=λw'=> ∃x:qz S d,w'=x.w') T t I H h
section
open Go.ChangeShapes Go.WideShapes Go.ChangeAt Go.RowKit
def Gb {a:Addr} (h:w.cell? a=ϊ v):a.spot=ϋ/\a.block<w.heap.size:=by
 unfold World.cell? at h;split at h
 ·rename_i c t f d;split at h
  ·cases h
  ·rename_i H;refine⟨by simpa using H, ?_⟩;rcases X3 a.block w.heap.size with h' | h'
   ·exact h'
   ·simp[Array.getElem?_eq_none h'] at d
 ·cases h
def Byt.of_wf (h: ∀n∈l,(Lit.int .u8 n).wf=ό):Byt l:=by
 intro i;rw[ϒ];by_cases hi:i<l.length
 ·rw[ϖ hi,ϣ];exact bounds_u8 (h _ (ϡ hi))
 ·rw[I8 τ];simp
end
section
open Go.ChangeShapes Go.WideShapes Go.Deep
abbrev qL (α:Type):=World->List Value->α->Prop
def jC (P:Program) (t:TypeId) (R:qL α):Prop:=
 ∀(H:Type) (enc:TypeId×Value->H) (w:World) (base:Nat) (spare:Nat->Bool) (held:Bool) (fuel:Nat) (cs:List Value) (x:DataW H×List MemPlace),
  DataW.trod enc P w base spare held fuel t cs=ϊ x-> ∃y,R w cs y
def QQ (R:qL α):Prop:= ∀(w w':World) (cs:List Value) (y:α),ql w w'->R w cs y->R w' cs y
def yW (k:IntKind):qL Int:=λ_ cs n=>cs=[.int k n]/\(Lit.int k n).wf=ό
def DS:qL Bool:=λ_ cs b=>cs=[.bool b]
def Gp:qL Unit:=λ_ cs _=>cs=[]
def zf {β:Type} (n:Nat) (R:qL α) (Q:qL β):qL (α×β):=λw cs y=>R w (cs.take n) y.1/\Q w (cs.drop n) y.2
def LK (m n:Nat) (R:qL α):qL (List α):=λw cs L=>cs.length=m* n/\L.length=m/\ ∀i (hi:i<L.length),R w ((cs.drop (i* n)).take n) L[i]
def SlP (n:Nat) (R:qL α) (w:World) (v:Value) (L:List α):Prop:=
 ∃oa cap,v= .slice oa L.length cap/\(L.length:Int)<=9223372036854775807/\
  (∀i (hi:i<L.length),∃b off cs,oa=ϊ ⟨b,off,ϋ⟩/\b<w.heap.size/\cs.length=n/\(∀j,j<n->w.cell? ⟨b,off+i* n+j,ϋ⟩=cs[j]?)/\R w cs L[i])/\
  L.length<=cap/\cap<=maxLen/\(oa=ϋ->cap=0)
def RSl (n:Nat) (R:qL α):qL (List α):=λw cs L=> ∃v,cs=[v]/\SlP n R w v L
def SlP.keep {R:qL α} {L:List α} (N:QQ R) (h:SlP n R w v L) (m:ql w w'):SlP n R w' v L:=by
 obtain⟨ab,cap,H,I,J,M⟩:=h;refine⟨ab,cap,H,I,λi hi=> ?_,M⟩;obtain⟨b,ac,cs,e,d,Y,O,aa⟩:=J i hi;exact⟨b,ac,cs,e,ϗ d m.size,Y,λj U=>by rw[m.cells b _ d];exact O j U,N _ _ _ _ m aa⟩
section
variable {P:Program} {t e:TypeId}
def jC.int (d:P.underlying t=ϊ (.int k)):jC P t (yW k):=λ_ _ _ _ _ _ _ _ _ h=>by
 obtain⟨n,rfl,_,H⟩:=DataW.trod_int d h;exact⟨n,rfl,H⟩
def jC.bool (d:P.underlying t=ϊ .bool):jC P t DS:=λ_ _ _ _ _ _ _ _ _ h=>by
 obtain⟨n,rfl,_⟩:=DataW.trod_bool d h;exact⟨n,rfl⟩
def SlP.nil (n:Nat) (R:qL α) (w:World):SlP n R w (δ ϋ 0 0) []:=⟨ϋ,0,rfl,η,λi hi=>by simp at hi,η,by unfold maxLen;omega,λ_=>rfl⟩
def uE {p:Nat->α->Prop}: ∀(n:Nat),(∀i,i<n-> ∃y,p i y)-> ∃L:List α,L.length=n/\ ∀i (hi:i<L.length),p i L[i]
 | 0,_=>⟨[],rfl,λi hi=>by simp at hi⟩
 | n+1,h=>by
  obtain⟨L,d,H⟩:=uE n (λi hi=>h i τ);obtain⟨y,I⟩:=h n τ;refine⟨L++[y],by simp[d],λi hi=> ?_⟩;simp at hi;by_cases e:i<L.length
  ·rw[M8 e];exact H i e
  ·obtain rfl:i=L.length:=by omega
   simp[d,I]
def jC.sl {R:qL α} (au:P.underlying t=ϊ (.slice e)) (ao:P.cellsOf e=n) (aG:1<=n) (h:jC P e R):jC P t (RSl n R):=λad ae w base az aj aC cs x aw=>by
 rcases open_slice au aw with ⟨rfl,_⟩ | ⟨a,ac,cap,m,ay,D,aA,rfl,aD,am,Y,an,_,hi⟩
 ·exact⟨[],_,rfl,SlP.nil n R w⟩
 ·have aF:ac<=m:=by rw[an];split<;>omega
  rw[ao] at hi
  obtain⟨L,I,aa⟩:=uE (p:=λi y=> ∃cs,w.cells? base (a.add (i* n)) n=ϊ cs/\R w cs y) ac (λi U=>by
   obtain⟨cs',J,av⟩:=hi i τ;obtain⟨y,ax⟩:=h ad ae w base az aj ay cs' _ av
   exact⟨y,cs',J,ax⟩)
  refine⟨L,_,rfl,ϊ a,cap,by rw[I],by rw[I];unfold maxLen at Y;omega,λi U=> ?_,by rw[I];exact am,Y,λh=>by cases h⟩;obtain⟨cs',J,ap⟩:=aa i U;obtain⟨_,ai,O⟩:=World.cells?_some J;have H:=O 0 τ;rw[ϖ τ] at H;have aq:=Gb H;obtain⟨b,d,sp⟩:=a;have N: ∀k,(⟨b,d,sp⟩:Addr).add k=⟨b,d+k,if k=0 then sp else ϋ⟩:=by
   intro k;unfold Addr.add;split
   ·rename_i al;subst al;rfl
   ·rfl
  have ag:b<w.heap.size:=by
   have:=aq.2;rw[N] at this;unfold Addr.add at this;exact this
  have ar:sp=ϋ:=by
   obtain⟨aB,ah,_⟩:=aa 0 τ;obtain⟨_,aE,af⟩:=World.cells?_some ah;have M:=af 0 τ;rw[ϖ τ] at M;have ab:=(Gb M).1;simp[Addr.add] at ab;exact ab
  subst ar;refine⟨b,d,cs',rfl,ag,ai,λj ak=> ?_,ap⟩;rw[<-O j ak,N];have:(⟨b,d+i* n,if i* n=0 then ϋ else ϋ⟩:Addr)=⟨b,d+i* n,ϋ⟩:=by split<;>rfl
  rw[this];unfold Addr.add;split
  ·rename_i H;subst H;rfl
  ·rfl
def jH (P:Program) (fs:List Field) (off:Nat) (R:qL α):Prop:=
 ∀(H:Type) (enc:TypeId×Value->H) (w:World) (base:Nat) (spare:Nat->Bool) (held:Bool) (n total:Nat) (cs:List Value),cs.length=total->total=off+(fs.map λf=>P.cellsOf f.type).sum->
  (∀f∈fs,∃x,DataW.trod enc P w base spare held n f.type ((cs.drop f.offset).take (P.cellsOf f.type))=ϊ x)-> ∃y,R w (cs.drop off) y
def jH.nil {H:Nat}:jH P [] H Gp:=λ_ _ _ _ _ _ _ _ cs I d _=>⟨(),by
 simp at d
 exact I3 τ⟩
def jH.cons {β:Type} {f:Field} {J:List Field} {d:Nat} {R:qL α} {Q:qL β} (ac:f.offset=d) (N:P.cellsOf f.type=n) (h:jC P f.type R) (k:jH P J (d+n) Q):jH P (f::J) d (zf n R Q):=λH I w base Y M m ag cs ab ad O=>by
 obtain⟨x,ae⟩:=O f η;obtain⟨y,U⟩:=h H I w base Y M m _ x ae;obtain⟨z,af⟩:=k H I w base Y M m ag cs ab (by rw[ad];simp[N];omega) (λg aa=>O g (by simp[aa]));rw[ac,N] at U;exact⟨(y,z),U,by rw[T7];exact af⟩
def jC.struct {d:Array Field} {R:qL α} (aa:P.underlying t=ϊ (.struct d)) (J:P.cellsOf t=(d.toList.map λf=>P.cellsOf f.type).sum) (h:jH P d.toList 0 R):jC P t R:=λH I w base ad M ae cs x ab=>by
 obtain⟨xs,n,_,_,Y,af,N⟩:=DataW.trod_struct aa ab
 obtain⟨y,ac⟩:=h H I w base ad M n _ cs rfl (by rw[Y,J];omega) (λf O=>by
  obtain⟨i,hi,rfl⟩:=A0.1 O;have U:i<d.size:=by simpa using hi
  have:=N i d[i] (by simp[U]);rw[ϖ τ] at this
  exact⟨_,by simpa using this⟩)
 exact⟨y,by simpa using ac⟩
def jC.arr {m:Nat} {R:qL α} (aa:P.underlying t=ϊ (.array m e)) (U:P.cellsOf e=n) (M:P.cellsOf t=m* n) (h:jC P e R):jC P t (LK m n R):=λH I w base ad N ae cs x ab=>by
 obtain⟨xs,ac,_,_,O,af,d⟩:=DataW.trod_array aa ab;rw[U] at d
 obtain⟨L,J,Y⟩:=uE (p:=λi y=>R w ((cs.drop (i* n)).take n) y) m (λi hi=>by
  have:=d i hi;rw[ϖ τ] at this
  exact h H I w base ad N ac _ _ this)
 exact⟨L,by rw[O,M],J,Y⟩
end
def SlP.ints (h:SlP 1 (yW k) w v L):SlI k w v L/\ ∀n∈L,(Lit.int k n).wf=ό:=by
 obtain⟨ac,cap,N,O,d,U⟩:=h;refine⟨⟨ac,cap,N,O,λi hi=> ?_,U⟩,λn aa=> ?_⟩
 ·obtain⟨b,M,cs,e,H,Y,I,J,_⟩:=d i hi;refine⟨b,M,e,H, ?_⟩;have:=I 0 τ;rw[J] at this
  simpa [hi] using this
 ·obtain⟨i,hi,rfl⟩:=A0.1 aa;obtain⟨b,M,cs,e,H,Y,I,J,ab⟩:=d i hi;exact ab
end
def jw (R:qL α) (D:Nat->Prop) (w:World) (cs:List Value) (y:α):Prop:= ∀w',jt D w w'->R w' cs y
section
variable {α:Type} {R:qL α} {D D':Nat->Prop} {w w':World} {cs:List Value} {y:α}
def jw.read (h:jw R D w cs y):R w cs y:=h w (jt.refl D w)
def jw.step (h:jw R D w cs y) (a:jt D w w'):jw R D w' cs y:=λ_ b=>h _ (a.trans b)
def jw.on (h:jw R D w cs y) (a:ql w w'):jw R D w' cs y:=h.step (jt.of_more a)
def jw.other (h:jw R D w cs y) (k: ∀b,D' b->D b∨w.heap.size<=b):jw R D' w cs y:=λw' a=>
 h w' ⟨a.os,a.tape,a.output,a.size,λb d H=>a.block b d (λx=>by
  rcases k b x with e | e
  ·exact H e
  ·omega)⟩
def jw.old (d:QQ R) (h:R w cs y) (k: ∀b,D b->w.heap.size<=b):jw R D w cs y:=λw' a=>
 d w w' cs y ⟨a.os,a.tape,a.output,a.size,λb H=>a.block b H (λx=>by have:=k b x;omega)⟩ h
end
def SlI.off (h:SlI k w v l) (M: ∀b,v.ownBlock=ϊ b-> ¬D b) (a:jt D w w'):SlI k w' v l:=by
 obtain⟨O,cap,rfl,H,I,J⟩:=h;refine⟨O,cap,rfl,H,λi hi=> ?_,J⟩;obtain⟨b,off,rfl,d,N⟩:=I i hi;exact⟨b,off,rfl,ϗ d a.size,by rw[a.cells b _ d (M b rfl)];exact N⟩
def SlP.of_ints (h:SlI k w v l) (O: ∀n∈l,(Lit.int k n).wf=ό):SlP 1 (yW k) w v l:=by
 obtain⟨U,cap,H,I,J,M⟩:=h;refine⟨U,cap,H,I,λi hi=> ?_,M⟩;obtain⟨b,Y,e,N,d⟩:=J i hi;refine⟨b,Y,[.int k l[i]],e,N,rfl,λj aa=> ?_,rfl,O _ (ϡ hi)⟩;obtain rfl:j=0:=by omega
 simp at d ⊢;rw[d];simp[hi]
structure je {α:Type} (n:Nat) (R:qL α) (D:Nat->Prop) (w:World) (base e:Nat) (v:Value) (L:List α):Prop where
 row: ∃xs,w.ownsRow base e n v L.length xs/\ ∀i (hi:i<L.length),jw R (λk=>D k∨v.ownBlock=ϊ k) w ((xs.drop (i* n)).take n) L[i]
 apart: ∀b,v.ownBlock=ϊ b-> ¬D b
section
variable {α:Type} {n:Nat} {R:qL α} {D:Nat->Prop} {w w':World} {base e:Nat} {v:Value} {L:List α}
def je.nil (n:Nat) (R:qL α) (D:Nat->Prop) (w:World) (base e:Nat):je n R D w base e (δ ϋ 0 0) []:=
 ⟨⟨[],World.ownsRow_nil w base e n,λi hi=>by simp at hi⟩,λb h=>by cases h⟩
def je.step (h:je n R D w base e v L) (a:jt D w w'):je n R D w' base e v L:=by
 obtain⟨⟨xs,⟨H,I⟩,J⟩,d⟩:=h;refine⟨⟨xs,⟨H, ?_⟩,λi hi=>(J i hi).step (a.mono λk M=>ϑ M)⟩,d⟩;rcases I with h | ⟨g,cap,cur,e1,hb,hg,rest⟩
 ·exact ϑ h
 ·exact ϕ ⟨g,cap,cur,e1,hb,a.blk hg (d g (by rw[e1];rfl)),rest⟩
def je.on (h:je n R D w base e v L) (a:ql w w'):je n R D w' base e v L:=h.step (jt.of_more a)
def je.shape (h:je n R D w base e v L): ∃oa m cap,v= δ oa m cap/\m=L.length/\L.length<=cap:=by
 obtain⟨⟨xs,d,_⟩,_⟩:=h;rcases d.2 with ⟨rfl,e⟩ | ⟨b,cap,cur,rfl,_,_,H,_⟩
 ·exact⟨ϋ,0,0,rfl,τ,τ⟩
 ·exact⟨_,_,cap,rfl,rfl,H⟩
def je.lt (h:je n R D w base e v L) (d:v.ownBlock=ϊ b):b<w.heap.size:=by
 obtain⟨⟨xs,I,_⟩,_⟩:=h;rcases I.2 with ⟨rfl,_⟩ | ⟨H,cap,cur,rfl,_,J,_⟩
 ·cases d
 ·obtain rfl:H=b:=by injection d
  exact lt_of_block J
def je.ge (h:je n R D w base e v L) (d:v.ownBlock=ϊ b):base<=b:=by
 obtain⟨⟨xs,I,_⟩,_⟩:=h;rcases I.2 with ⟨rfl,_⟩ | ⟨H,cap,cur,rfl,J,_⟩
 ·cases d
 ·obtain rfl:H=b:=by injection d
  exact J
def je.sl (h:je n R D w base e v L) (ad:0<n):SlP n R w v L:=by
 obtain⟨⟨xs,⟨J,M⟩,N⟩,_⟩:=h;rcases M with ⟨rfl,I⟩ | ⟨g,cap,cur,rfl,ab,H,Y,d,ac,aa⟩
 ·obtain rfl:L=[]:=Ϥ I;exact SlP.nil n R w
 ·refine⟨_,cap,rfl,by unfold maxLen at d;omega,λi hi=>⟨g,0,_,rfl,lt_of_block H, ?_,λj U=> ?_,(N i hi).read⟩,Y,d,λh=>by cases h⟩
  ·have O:i* n+n<=L.length* n:=by
    have:(i+1)* n<=L.length* n:=A8 n hi;rw[G4,O2] at this;exact this
   rw[Ϡ,Ϣ,J];omega
  ·have O:i* n+n<=L.length* n:=by
    have:(i+1)* n<=L.length* n:=A8 n hi;rw[G4,O2] at this;exact this
   rw[E9,cell_of_row w g _ cur e (0,0) H,ο,ϐ U,D0,<-aa,ο,ϐ τ];simp
end
def uI {P:Program} (w:World) (base:Nat) (t aa e:TypeId) (i:TypeInfo) (z:Value) (n bytes:Nat) (aw:P.underlying t=ϊ (.slice e)) (hi:P.info? e=ϊ i) (ay:i.zero=ϊ z)
  (av:i.size=n) (ah:i.bytes=bytes) (az:z.cells.size=n) (ao:0<n)
  {R:qL α} (v:Value) (L:List α) (ar:je n R D w base e v L)
  (B:Nat) (cs:List Value) (y:α) (am:cs.length=n) (ap: ∀j u,cs[j]? =ϊ u->w.cell? ⟨B,j,ϋ⟩=ϊ u) (ad: ∀u∈cs,u.oneCell'=ό)
  (ax:jw R (λk=>D k∨v.ownBlock=ϊ k) w cs y) (ae: ∀b,D b->b<w.heap.size)
  (aA:1<=bytes) (ai:(L.length+1)* bytes<=140737488355328) (ag:base<=w.heap.size):
  ∃v' w',(Builtin.append_ #[t,t] aa #[v,δ (ϊ ⟨B,0,ϋ⟩) 1 1]).run P w= .ok v' w'/\je n R D w' base e v' (L++[y])/\w.grownBy w' v.ownBlock/\(v'.ownBlock=v.ownBlock∨v'.ownBlock=ϊ w.heap.size):=by
 obtain⟨⟨xs,N,ak⟩,af⟩:=ar;have an:L.length+1<=maxLen:=by
  have:=J6 (L.length+1) (show 0<bytes by omega);unfold maxLen;omega
 obtain⟨v',w',au,aq,H,_,d⟩:=run_append_own_at (P:=P) w base t aa e i z n bytes aw hi ay av ah az ao v L.length xs N ⟨B,0,ϋ⟩ 1 1 cs (by rw[am,O2]) (by
  intro j u al;have ab:(⟨B,0,ϋ⟩:Addr).add j=⟨B,j,ϋ⟩:=by
   unfold Addr.add;split
   ·rename_i ac;subst ac;rfl
   ·simp
  rw[ab];exact ap j u al) ad an ai ag
 have aj: ∀k (M:k<(L++[y]).length),jw R (λk=>D k∨v.ownBlock=ϊ k) w (((xs++cs).drop (k* n)).take n) (L++[y])[k]:=by
  intro k M;simp at M;by_cases e:k<L.length
  ·have aB:k* n+n<=L.length* n:=by
    have:(k+1)* n<=L.length* n:=A8 n e;rw[G4,O2] at this;exact this
   have aC:=N.1;have O:((xs++cs).drop (k* n)).take n=(xs.drop (k* n)).take n:=by
    rw[G5 τ,G6 (by rw[Ϣ];omega)]
   rw[O,M8 e];exact ak k e
  ·obtain rfl:k=L.length:=by omega
   have O:((xs++cs).drop (L.length* n)).take n=cs:=by
    rw[G5 (by rw[N.1];exact ϔ _),I3 (by rw[N.1];exact ϔ _),J0];exact K6 τ
   rw[O]
   simpa using ax
 refine⟨v',w',au,⟨⟨xs++cs,by simpa using aq,λk M w'' a'=> ?_⟩, ?_⟩,H,d⟩
 ·refine aj k M w'' ⟨a'.os.trans H.os,a'.tape.trans H.tape,a'.output.trans H.output,Ϙ H.size a'.size,λb I U=> ?_⟩;rw[a'.block b (ϗ I H.size) ?_]
  ·exact H.block b I (λe=>U (ϕ e.symm))
  ·rintro(J | J)
   ·exact U (ϑ J)
   ·rcases d with d | d
    ·exact U (ϕ (by rw[<-d];exact J))
    ·rw[d] at J;have:w.heap.size=b:=by injection J
     omega
 ·intro b I Y;rcases d with d | d
  ·exact af b (by rw[<-d];exact I) Y
  ·rw[d] at I;have:w.heap.size=b:=by injection I
   have:=ae b Y;omega
def jN {P:Program} (w:World) {o:Oper} (ab:o.guard=ϋ) (s x:Operand) (t:TypeId)
  (af:o.op= .call {callee:= .builtin .append,args:= #[s,x],argTypes:= #[t,t]})
  (base:Nat) (e:TypeId) (i:TypeInfo) (z:Value) (n bytes:Nat) (ak:P.underlying t=ϊ (.slice e)) (hi:P.info? e=ϊ i) (an:i.zero=ϊ z)
  (aj:i.size=n) (U:i.bytes=bytes) (ao:z.cells.size=n) (ad:0<n)
  {R:qL α} (v:Value) (L:List α) (ai:a.eval s=v) (ag:je n R D w base e v L)
  (B:Nat) (cs:List Value) (y:α) (al:a.eval x= δ (ϊ ⟨B,0,ϋ⟩) 1 1) (ac:cs.length=n) (ae: ∀j u,cs[j]? =ϊ u->w.cell? ⟨B,j,ϋ⟩=ϊ u) (d: ∀u∈cs,u.oneCell'=ό)
  (am:jw R (λk=>D k∨v.ownBlock=ϊ k) w cs y) (M: ∀b,D b->b<w.heap.size)
  (Y:1<=bytes) (aa:(L.length+1)* bytes<=140737488355328) (O:base<=w.heap.size)
  (h: ∀v' w',je n R D w' base e v' (L++[y])->w.grownBy w' v.ownBlock->(v'.ownBlock=v.ownBlock∨v'.ownBlock=ϊ w.heap.size)->wpList P ops Q rest (a.put o.dst v') w'):wpList P ops Q (o::rest) a w:=by
 refine wpList_plain ab λK N=> ?_
 obtain⟨v',w',ah,H,I,J⟩:=uI (P:=P) w base t o.type e i z n bytes ak hi an aj U ao ad v L ag B cs y ac ae d am M Y aa O;unfold Oper.wp execOp;simp only[af,resolve,invoke,builtin,Sem.run_bind,Sem.run_pure,Result.andThen_ok,K2,Ϟ,D4,ai,al,ah];exact N _ _ (h v' w' H I J)
def zK {P:Program} {o:Oper} {C:World->Prop} (s x:Operand) (t:TypeId)
  (ad:o.op= .call {callee:= .builtin .append,args:= #[s,x],argTypes:= #[t,t]})
  (base:Nat) (e:TypeId) (i:TypeInfo) (z:Value) (n bytes:Nat) (ai:P.underlying t=ϊ (.slice e)) (hi:P.info? e=ϊ i) (al:i.zero=ϊ z)
  (ah:i.size=n) (O:i.bytes=bytes) (am:z.cells.size=n) (ab:0<n)
  {R:qL α} (v:Value) (L:List α) (ag:a.eval s=v) (ae:je n R D w base e v L)
  (B:Nat) (cs:List Value) (y:α) (aj:a.eval x= δ (ϊ ⟨B,0,ϋ⟩) 1 1) (aa:cs.length=n) (ac: ∀j u,cs[j]? =ϊ u->w.cell? ⟨B,j,ϋ⟩=ϊ u) (d: ∀u∈cs,u.oneCell'=ό)
  (ak:jw R (λk=>D k∨v.ownBlock=ϊ k) w cs y) (M: ∀b,D b->b<w.heap.size)
  (U:1<=bytes) (Y:(L.length+1)* bytes<=140737488355328) (N:base<=w.heap.size)
  (h: ∀v' w',je n R D w' base e v' (L++[y])->w.grownBy w' v.ownBlock->(v'.ownBlock=v.ownBlock∨v'.ownBlock=ϊ w.heap.size)->C w'/\K (a.put o.dst v') w'):jn P C o a w K:=by
 obtain⟨v',w',af,H,I,J⟩:=uI (P:=P) w base t o.type e i z n bytes ai hi al ah O am ab v L ae B cs y aa ac d ak M U Y N;unfold jn execOp;simp only[ad,resolve,invoke,builtin,Sem.run_bind,Sem.run_pure,Result.andThen_ok,K2,Ϟ,D4,ag,aj,af];exact h v' w' H I J
section
open Go.RowKit Go.ChangeShapes
structure PkS (w:World) (vs ve vp:Value) (p:Pk):Prop where
 s:SlI .u32 w vs p.ss
 e:SlI .u8 w ve p.ex
 l:SlI .u8 w vp p.pl
def PkS.keep {H d vp:Value} {p:Pk} (h:PkS w H d vp p) (m:ql w w'):PkS w' H d vp p:=⟨h.s.keep m,h.e.keep m,h.l.keep m⟩
structure uj (p:Pk):Prop where
 s:p.ss.length<=1000000
 e:p.ex.length<=1000000
 l:p.pl.length<=1000000
def Do (p:Pk) (I H vp:Value) (w:World) (h:PkS w I H vp p) (J:uj p):
  Calls prog 154 #[(Γq p I H vp)] w λe w'=>e= .returned (ι (ww p))/\ql w w':=by
 obtain⟨⟨os,N,rfl,_⟩,⟨ab,ke,rfl,_⟩,⟨ac,M,rfl,_⟩⟩:=h;obtain⟨O,U,Y⟩:=J;have d:ww p=12+4* (p.ss.length:Int)+(p.pl.length:Int)+if p.has then 4+(p.ex.length:Int) else 0:=rfl
 rw[d];clear d;obtain⟨aa,ae,sq,st,sc,ss,has,ad,ex,pl⟩:=p;simp only at *;generalize ss.length=a at *;generalize ex.length=b at *;generalize pl.length=c at *;cases has with
 | true=>
  go_enter func154,ntmps154
  go_wp2;go_ret;exact⟨xV (by simp only[A7];try omega),ql.alloc _ _⟩
 | false=>
  go_enter func154,ntmps154
  go_wp2;go_ret;exact⟨xV (by simp only[Ϭ,C2];try omega),ql.alloc _ _⟩
def gc (p:Pk) (ag af vp:Value) (w:World) (h:PkS w ag af vp p) (aj:uj p):
  Calls prog 92 #[(Γq p ag af vp)] w λe w'=>e= .returned (μ (jJ p))/\ql w w':=by
 have Y:=κ h;have J:=yq p;have aa:=κ (λw' al=>Do p ag af vp w' al aj);obtain⟨⟨os,ar,rfl,_⟩,⟨ax,ke,rfl,an⟩,⟨ay,aq,rfl,_⟩⟩:=h;clear an;obtain⟨au,d,av⟩:=aj;obtain⟨ak,ae⟩:=ν (ww p);rw[ae] at J;have ab:=κ ae;clear ae;obtain⟨R,ah⟩:=ν (jJ p);rw[ah] at J ⊢;clear ah;obtain⟨aw,ao,sq,st,sc,ss,ac,U,N,az⟩:=p;simp only at *;have ai:N=[]↔N.length=0:=List.length_eq_zero_iff.symm;rw[ai] at J;clear ai;by_cases h1:ao<=127
 ·by_cases h2:(ss.length:Int)<=15
  ·by_cases I:ac=ύ/\ ¬(U=0)
   ·obtain⟨rfl,I⟩:=I
    have M:Hid (R=ύ):=κ (by
     cases R with
     | false=>rfl
     | true=>exact ϩ ((J.1 rfl).2.2.1 rfl).1 I)
    have ad:(U != 0)=ό:=by simpa using I
    clear J I
    go_enter func92,ntmps92
    go_wp2_with (go_at_call 154;(go_call aa.o _ (Y.o.keep X8) as e w2 ⟨rfl,d⟩;rw[ab.o];have H:=κ d;clear d))
    go_ret;exact⟨by rw[M.o];first | rfl | (simp;omega),by first | exact ql.alloc _ _ | exact X8.trans H.o⟩
   ·by_cases O:ac=ύ/\ ¬(N.length=0)
    ·obtain⟨rfl,O⟩:=O
     have M:Hid (R=ύ):=κ (by
      cases R with
      | false=>rfl
      | true=>exact ϩ ((J.1 rfl).2.2.1 rfl).2 O)
     obtain rfl:U=0:=by
      by_cases e:U=0
      ·exact e
      ·exact ϩ ⟨rfl,e⟩ I
     have ad:(0:Int)<(N.length:Int):=by omega
     clear J I O
     go_enter func92,ntmps92
     go_wp2_with (go_at_call 154;(go_call aa.o _ (Y.o.keep X8) as e w2 ⟨rfl,d⟩;rw[ab.o];have H:=κ d;clear d))
     go_ret;exact⟨by rw[M.o];first | rfl | (simp;omega),by first | exact ql.alloc _ _ | exact X8.trans H.o⟩
    ·by_cases h5:(N.length:Int)%4=0
     ·have am:((N.length:Int)).tmod 4=0:=by rw[D8 τ];exact h5
      by_cases h6:ak<=200
      ·have M:Hid (R=ό):=κ (J.2 ⟨h1,h2,λe=>⟨by
        by_cases z:U=0
        ·exact z
        ·exact ϩ ⟨e,z⟩ I,by
        by_cases z:N.length=0
        ·exact z
        ·exact ϩ ⟨e,z⟩ O⟩,h5,h6⟩)
       clear J h5;cases ac with
       | true=>
        clear I O
        go_enter func92,ntmps92
        go_wp2_with (go_at_call 154;(go_call aa.o _ (Y.o.keep X8) as e w2 ⟨rfl,d⟩;rw[ab.o];have H:=κ d;clear d))
        go_ret;exact⟨by rw[M.o];first | rfl | (simp;omega),by first | exact ql.alloc _ _ | exact X8.trans H.o⟩
       | false=>
        obtain rfl:U=0:=by
         by_cases e:U=0
         ·exact e
         ·exact ϩ ⟨rfl,e⟩ I
        have ad: ¬(0:Int)<(N.length:Int):=by
         by_cases e:N.length=0
         ·omega
         ·exact ϩ ⟨rfl,e⟩ O
        clear I O
        go_enter func92,ntmps92
        go_wp2_with (go_at_call 154;(go_call aa.o _ (Y.o.keep X8) as e w2 ⟨rfl,d⟩;rw[ab.o];have H:=κ d;clear d))
        go_ret;exact⟨by rw[M.o];first | rfl | (simp;omega),by first | exact ql.alloc _ _ | exact X8.trans H.o⟩
      ·have M:Hid (R=ύ):=κ (by
        cases R with
        | false=>rfl
        | true=>exact ϩ (J.1 rfl).2.2.2.2 h6)
       clear J h5;cases ac with
       | true=>
        clear I O
        go_enter func92,ntmps92
        go_wp2_with (go_at_call 154;(go_call aa.o _ (Y.o.keep X8) as e w2 ⟨rfl,d⟩;rw[ab.o];have H:=κ d;clear d))
        go_ret;exact⟨by rw[M.o];first | rfl | (simp;omega),by first | exact ql.alloc _ _ | exact X8.trans H.o⟩
       | false=>
        obtain rfl:U=0:=by
         by_cases e:U=0
         ·exact e
         ·exact ϩ ⟨rfl,e⟩ I
        have ad: ¬(0:Int)<(N.length:Int):=by
         by_cases e:N.length=0
         ·omega
         ·exact ϩ ⟨rfl,e⟩ O
        clear I O
        go_enter func92,ntmps92
        go_wp2_with (go_at_call 154;(go_call aa.o _ (Y.o.keep X8) as e w2 ⟨rfl,d⟩;rw[ab.o];have H:=κ d;clear d))
        go_ret;exact⟨by rw[M.o];first | rfl | (simp;omega),by first | exact ql.alloc _ _ | exact X8.trans H.o⟩
     ·have am:(((N.length:Int)).tmod 4==0)=ύ:=by
       rw[beq_eq_false_iff_ne,D8 τ];exact h5
      have ap:((N.length:Int)%4==0)=ύ:=by rw[beq_eq_false_iff_ne];exact h5
      have M:Hid (R=ύ):=κ (by
       cases R with
       | false=>rfl
       | true=>exact ϩ (J.1 rfl).2.2.2.1 h5)
      clear J h5;cases ac with
      | true=>
       clear I O
       go_enter func92,ntmps92
       go_wp2_with (go_at_call 154;(go_call aa.o _ (Y.o.keep X8) as e w2 ⟨rfl,d⟩;rw[ab.o];have H:=κ d;clear d))
       go_ret;exact⟨by rw[M.o];first | rfl | (simp;omega),by first | exact ql.alloc _ _ | exact X8.trans H.o⟩
      | false=>
       obtain rfl:U=0:=by
        by_cases e:U=0
        ·exact e
        ·exact ϩ ⟨rfl,e⟩ I
       have ad: ¬(0:Int)<(N.length:Int):=by
        by_cases e:N.length=0
        ·omega
        ·exact ϩ ⟨rfl,e⟩ O
       clear I O
       go_enter func92,ntmps92
       go_wp2_with (go_at_call 154;(go_call aa.o _ (Y.o.keep X8) as e w2 ⟨rfl,d⟩;rw[ab.o];have H:=κ d;clear d))
       go_ret;exact⟨by rw[M.o];first | rfl | (simp;omega),by first | exact ql.alloc _ _ | exact X8.trans H.o⟩
  ·have M:Hid (R=ύ):=κ (by
    cases R with
    | false=>rfl
    | true=>exact ϩ (J.1 rfl).2.1 h2)
   have ad:(15:Int)<(ss.length:Int):=by omega
   clear J
   go_enter func92,ntmps92
   go_wp2_with (go_at_call 154;(go_call aa.o _ (Y.o.keep X8) as e w2 ⟨rfl,d⟩;rw[ab.o];have H:=κ d;clear d))
   go_ret;exact⟨by rw[M.o];first | rfl | (simp;omega),by first | exact ql.alloc _ _ | exact X8.trans H.o⟩
 ·have M:Hid (R=ύ):=κ (by
   cases R with
   | false=>rfl
   | true=>exact ϩ (J.1 rfl).1 h1)
  clear J
  go_enter func92,ntmps92
  go_wp2_with (go_at_call 154;(go_call aa.o _ (Y.o.keep X8) as e w2 ⟨rfl,d⟩;rw[ab.o];have H:=κ d;clear d))
  go_ret;exact⟨by rw[M.o];first | rfl | (simp;omega),by first | exact ql.alloc _ _ | exact X8.trans H.o⟩
def Zd (b:List Int):Bool:=decide (2<=b.length)&&decide (192<=b.getD 1 0)&&decide (b.getD 1 0<=223)
def V3 (v:Value) (b:List Int) (w:World) (J:SlI .u8 w v b):
  Calls prog 129 #[v] w λe w'=>e= .returned (μ (Zd b))/\w=w':=by
 obtain⟨aa,N,rfl,Y,d,_⟩:=J;have H:Zd b=(decide (2<=b.length)&&decide (192<=b.getD 1 0)&&decide (b.getD 1 0<=223)):=rfl;rw[H];clear H;by_cases h2:2<=b.length
 ·obtain⟨M,ab,rfl,O,U⟩:=d 1 τ;have I:(2:Int)<=(b.length:Int):=by omega
  rw[Ϫ h2];clear d;generalize b.getD 1 0=x at *;by_cases h3:192<=x
  ·by_cases h4:x<=223
   ·go_enter func129,ntmps129
    go_wp2;go_ret;simp[h3,h4]
   ·go_enter func129,ntmps129
    go_wp2;go_ret;simp[h3,h4]
  ·go_enter func129,ntmps129
   go_wp2;go_ret;simp[h3]
   try omega
 ·have I: ¬(2:Int)<=(b.length:Int):=by omega
  rw[Ϩ h2];clear d
  go_enter func129,ntmps129
  go_wp2;go_ret;simp
end
def WrX (w0 w:World) (W B:Nat) (o:Obj) (l:List Int):Prop:= ∃v,WrK w0 w W v l B o
def WrX.start {w2:World} {o:Obj} (m:ql (w.alloc o) w2):WrK w (w2.alloc (.cells #[δ ϋ 0 0] 204)) w2.heap.size (δ ϋ 0 0) [] w.heap.size o:=by
 have d:w.heap.size<w2.heap.size:=qn (qq m (qj w o));exact⟨wR w2,((ql.alloc w o).trans m).al _,S1 d,qs (qq m (qj w o)) _,τ,by simp[Value.ownBlock]⟩
def WrX.cell {d:World} {cs:Array Value} {t:TypeId} (h:WrX d w W B (.cells cs t (0,0)) l) (i:Nat) (hi:cs[i]? =ϊ v):w.cell? ⟨B,i,ϋ⟩=ϊ v:=by
 obtain⟨v',k⟩:=h;exact qm k.keep i hi
def WrX.more {d:World} {o:Obj} (h:WrX d w W B o l):ql d w:=by
 obtain⟨v',k⟩:=h;exact k.more
def ju (n s:Int):(qy n s).length<=8:=by
 unfold qy;split
 ·rw[zP];omega
 ·simp
def uj.of_right {p:Pk} (h:jJ p=ό):uj p/\p.ss.length<=15/\p.ex.length<=200/\p.pl.length<=200:=by
 obtain⟨M,N,H,O,d⟩:=(yq p).1 h;unfold ww at d;have I:p.ex.length<=200:=by
  cases hh:p.has with
  | false=>rw[(H hh).2];simp
  | true=>rw[hh] at d;simp only[A7] at d;omega
 have J:p.pl.length<=200:=by split at d<;>omega
 exact⟨⟨τ,τ,τ⟩,τ,I,J⟩
def gi (p:Pk) (aB aA vp:Value) (w:World) (h:PkS w aB aA vp p) (ao:uf p) (ay:jJ p=ό):
  Calls prog 37 #[(Γq p aB aA vp)] w λe w'=>(∃v,e= .returned (.tuple #[v,ι 0])/\w'.ownsRow w.heap.size 5 1 v (pkB p).length ((pkB p).map (Value.int .u8)))/\ql w w':=by
 obtain⟨bV,cA,cB,cC⟩:=uj.of_right ay;have ax:=κ h;have bD:=κ (gc p aB aA vp (w.alloc (.cells (Γq p aB aA vp) 63)) (h.keep X8) bV);have bT:=(yq p).1 ay;have bC:=κ ay;obtain⟨⟨os,au,rfl,_⟩,⟨av,ke,rfl,bU⟩,⟨aw,ar,rfl,_⟩⟩:=h;clear bU;have t1:=ao.ty;have t2:=ao.sq;have t3:=ao.st;have t4:=ao.sc;have ca:=ao.pr;have bE:=κ ao.ss;obtain⟨cp,cq,bP,cr,_⟩:=bT;obtain⟨ab,aJ,o2,bi⟩: ∃ab,(p.has=ύ->ab=128+(p.ss.length:Int))/\(p.has=ό->ab=128+(p.ss.length:Int)+16)/\ab=CT p:=⟨_,λe=>by simp[CT,e],λe=>by simp[CT,e],rfl⟩;obtain⟨ac,aK,aL,bj⟩: ∃ac,(p.mr=ύ->ac=p.ty)/\(p.mr=ό->ac=p.ty+128)/\ac=CN p:=⟨_,λe=>by simp[CN,e],λe=>by simp[CN,e],rfl⟩;have bQ:0<=ab/\ab<=255:=by
  cases hh:p.has with
  | false=>rw[aJ hh];omega
  | true=>rw[o2 hh];omega
 have bR:0<=ac/\ac<=255:=by
  cases hh:p.mr with
  | false=>rw[aK hh];omega
  | true=>rw[aL hh];omega
 have aH:pkB p=qy ab 1++qy ac 1++qy p.sq 2++qy p.st 4++qy p.sc 4++ssB p.ss++(if p.has then qy p.pr 2++qy ((p.ex.length:Int)/4) 2++p.ex else [])++p.pl:=by
  rw[bi,bj];rfl
 obtain⟨ap,aE,aF,aO⟩: ∃ap,(p.has=ύ->ap=[])/\(p.has=ό->ap=qy p.pr 2++qy ((p.ex.length:Int)/4) 2++p.ex)/\ap=if p.has then qy p.pr 2++qy ((p.ex.length:Int)/4) 2++p.ex else []:=⟨if p.has then qy p.pr 2++qy ((p.ex.length:Int)/4) 2++p.ex else [],λe=>by simp[e],λe=>by simp[e],rfl⟩
 rw[<-aO] at aH;have cz:ap.length<=300:=by
  have:=ju p.pr 2;have:=ju ((p.ex.length:Int)/4) 2;cases hh:p.has with
  | false=>rw[aE hh];simp
  | true=>rw[aF hh];simp only[Ϗ];omega
 rw[aH];clear ay ao aH bi bj aO;obtain⟨mr,ty,sq,st,sc,ss,has,pr,ex,pl⟩:=p;simp only at *;have bK:=κ aJ;have bL:=κ o2;have bM:=κ aK;have bN:=κ aL;have bv:=κ aE;have bw:=κ aF;have w1:IntKind.i64.wrap (128+(ss.length:Int))=128+(ss.length:Int):=IntWalk.i64_in _ τ;have bX:IntKind.u8.wrap (128+(ss.length:Int))=128+(ss.length:Int):=by
  show (128+(ss.length:Int))%256=_;omega
 obtain⟨s0,s1⟩:=t2;obtain⟨cH,cI⟩:=bQ;obtain⟨cF,cG⟩:=bR;obtain⟨t0,t1⟩:=t1;obtain⟨a0,cj⟩:=t3;obtain⟨ck,cl⟩:=t4;obtain⟨cn,c1⟩:=ca;clear aJ o2 aK aL aE aF bP
 go_enter func37,ntmps37
 go_upto_region 3 with (go_at_call 92;(go_call bD.o as e wr ⟨rfl,aI⟩;rw[bC.o];have bI:=κ aI;have an:=κ (qq aI (qj w (.cells #[μ mr,υ ty,φ sq,ω st,ω sc,δ os ss.length au,has,φ pr,δ av ex.length ke,δ aw pl.length ar] 63)));clear aI;have d:=λn=>β0 (qr an.o n);have H:=λn=>β1 (qr an.o n);have I:=λn=>β2 (qr an.o n);have J:=λn=>β3 (qr an.o n);have M:=λn=>β4 (qr an.o n);have N:=λn=>β5 (qr an.o n);have O:=λn=>β6 (qr an.o n);have U:=λn=>β7 (qr an.o n);have Y:=λn=>β8 (qr an.o n);have aa:=λn=>β9 (qr an.o n)))
 go_quiet (fail)
 clear w1 bX
 go_upto_if 21 with fail
 go_cut [4] from 20 (λbY aq=>bY= υ ab/\aq=wr.drewN nq)
 case first=>
  cases has with
  | false=>
   go_wp2;go_meet;exact⟨by rw[bK.o η],rfl⟩
  | true=>
   go_wp2;go_meet;exact⟨by rw[bL.o η],rfl⟩
 case rest=>
 obtain⟨rfl,rfl⟩:=hcut
 go_upto_if 26 with fail
 go_cut [5] from 24 (λbZ aq=>bZ= υ ac/\aq=wr.drewN nq)
 case first=>
  cases mr with
  | false=>
   go_wp2;go_meet;exact⟨by rw[bM.o η],rfl⟩
  | true=>
   go_wp2;go_meet;exact⟨by rw[bN.o η],rfl⟩
 case rest=>
 obtain⟨rfl,rfl⟩:=hcut;have bJ:Hid (ql (w.alloc (.cells #[μ mr,υ ty,φ sq,ω st,ω sc,δ os ss.length au,has,φ pr,δ av ex.length ke,δ aw pl.length ar] 63)) (wr.drewN nq)):=κ (bI.o.dr nq);have ae:=κ (WrX.start bJ.o);generalize wr.drewN nq=W3 at *;clear d H I J M N O U Y aa;have d:=β0 ae.o.keep;have H:=β1 ae.o.keep;have I:=β2 ae.o.keep;have J:=β3 ae.o.keep;have M:=β4 ae.o.keep;have N:=β5 ae.o.keep;have O:=β6 ae.o.keep;have U:=β7 ae.o.keep;have Y:=β8 ae.o.keep;have aa:=β9 ae.o.keep
 go_wp2_with first | (go_at_call 93;((with_reducible refine(wk ae.o.wr ab τ ζ).mono ?_);rintro e w10 ⟨rfl,bl⟩;obtain⟨cL,aV⟩:=ae.o.wrote bl;have af:=κ aV;clear aV bl d H I J M N O U Y aa;have d:=β0 af.o.keep;have H:=β1 af.o.keep;have I:=β2 af.o.keep;have J:=β3 af.o.keep;have M:=β4 af.o.keep;have N:=β5 af.o.keep;have O:=β6 af.o.keep;have U:=β7 af.o.keep;have Y:=β8 af.o.keep;have aa:=β9 af.o.keep)) | (go_at_call 93;((with_reducible refine(wk af.o.wr ac τ (by have:=ju ab 1;have:=ju ac 1;have:=ju sq 2;have:=ju st 4;have:=ju sc 4;simp only[Ϗ,ϧ];omega)).mono ?_);rintro e cf ⟨rfl,bm⟩;obtain⟨cb,bb⟩:=af.o.wrote bm;have ai:=κ bb;clear bb bm d H I J M N O U Y aa;have d:=β0 ai.o.keep;have H:=β1 ai.o.keep;have I:=β2 ai.o.keep;have J:=β3 ai.o.keep;have M:=β4 ai.o.keep;have N:=β5 ai.o.keep;have O:=β6 ai.o.keep;have U:=β7 ai.o.keep;have Y:=β8 ai.o.keep;have aa:=β9 ai.o.keep)) | (go_at_call 94;(go_call kU ai.o.wr sq τ (by have:=ju ab 1;have:=ju ac 1;have:=ju sq 2;have:=ju st 4;have:=ju sc 4;simp only[Ϗ,ϧ];omega) as e cg ⟨rfl,br⟩;obtain⟨cc,bc⟩:=ai.o.wrote br;have aj:=κ bc;clear bc br d H I J M N O U Y aa;have d:=β0 aj.o.keep;have H:=β1 aj.o.keep;have I:=β2 aj.o.keep;have J:=β3 aj.o.keep;have M:=β4 aj.o.keep;have N:=β5 aj.o.keep;have O:=β6 aj.o.keep;have U:=β7 aj.o.keep;have Y:=β8 aj.o.keep;have aa:=β9 aj.o.keep)) | (go_at_call 95;((with_reducible refine(uw aj.o.wr st τ (by have:=ju ab 1;have:=ju ac 1;have:=ju sq 2;have:=ju st 4;have:=ju sc 4;simp only[Ϗ,ϧ];omega)).mono ?_);rintro e ch ⟨rfl,bs⟩;obtain⟨bk,bd⟩:=aj.o.wrote bs;have ak:=κ bd;clear bd bs d H I J M N O U Y aa;have d:=β0 ak.o.keep;have H:=β1 ak.o.keep;have I:=β2 ak.o.keep;have J:=β3 ak.o.keep;have M:=β4 ak.o.keep;have N:=β5 ak.o.keep;have O:=β6 ak.o.keep;have U:=β7 ak.o.keep;have Y:=β8 ak.o.keep;have aa:=β9 ak.o.keep)) | (go_at_call 95;((with_reducible refine(uw ak.o.wr sc τ (by have:=ju ab 1;have:=ju ac 1;have:=ju sq 2;have:=ju st 4;have:=ju sc 4;simp only[Ϗ,ϧ];omega)).mono ?_);rintro e cP ⟨rfl,bt⟩;obtain⟨cd,be⟩:=ak.o.wrote bt;have am:=κ be;clear be bt d H I J M N O U Y aa;have d:=β0 am.o.keep;have H:=β1 am.o.keep;have I:=β2 am.o.keep;have J:=β3 am.o.keep;have M:=β4 am.o.keep;have N:=β5 am.o.keep;have O:=β6 am.o.keep;have U:=β7 am.o.keep;have Y:=β8 am.o.keep;have aa:=β9 am.o.keep))
 have ci:=κ (ax.o.s.keep am.o.more);generalize aG:([]++qy ab 1++qy ac 1++qy sq 2++qy st 4++qy sc 4)=PX at *;have cx:PX.length<=100:=by rw[<-aG];exact(by have:=ju ab 1;have:=ju ac 1;have:=ju sq 2;have:=ju st 4;have:=ju sc 4;simp only[Ϗ,ϧ];omega)
 have bA:=κ aG;clear aG;clear ae af ai aj ak
 go_loopw [48] (λi aq=> ∃k:Nat,k<=ss.length/\i= ι k/\WrX w aq W3.heap.size w.heap.size (.cells #[μ mr,υ ty,φ sq,ω st,ω sc,δ os ss.length au,has,φ pr,δ av ex.length ke,δ aw pl.length ar] 63) (PX++ssB (ss.take k))) (λi _=>ss.length-(intOf i).toNat)
 case atStart=>exact⟨0,τ,rfl,_,by simpa [ssB] using am.o⟩
 case round=>
  obtain⟨k,ao,rfl,az⟩:=hrel;have ad:=κ az;have bS:(PX++ssB (ss.take k)).length<=10000:=by rw[Ϗ,WE,Ϡ];omega
  by_cases hlt:k<ss.length
  ·obtain⟨cD,co,bO,_,aQ,_⟩:=ax.o.s.keep az.more;cases bO;obtain⟨cm,cE,rfl,ct,cu⟩:=aQ k hlt;have cv:(k:Int)<(ss.length:Int):=by omega
   have aU:ss.take (k+1)=ss.take k++[ss.getD k 0]:=by rw[Φ hlt];simp[hlt]
   have aT:PX++ssB (ss.take (k+1))=PX++ssB (ss.take k)++qy (ss.getD k 0) 4:=by rw[aU,AP,ϭ]
   have bF:=κ aT;have bW:=bE.o k;obtain⟨cO,bf⟩:=az;have aM:=κ bf;clear aQ aU aT bf;generalize ss.getD k 0=x at *;obtain⟨cJ,cK⟩:=bW
   go_wp2_with (go_at_call 95;(go_call uw aM.o.wr x τ τ as e w8 ⟨rfl,bu⟩;obtain⟨ce,bg⟩:=aM.o.wrote bu;have bH:=κ bg;clear bg bu))
   go_roundw
   case rel=>exact⟨k+1,τ,by go_num,ce,by rw[bF.o];exact bH.o⟩
   case measure=>simp[intOf];omega
  ·obtain rfl:k=ss.length:=by omega
   rw[ϱ] at ad bS;clear az;have d:=WrX.cell ad.o 0 (v:= μ mr) rfl;have H:=WrX.cell ad.o 1 (v:= υ ty) rfl;have I:=WrX.cell ad.o 2 (v:= φ sq) rfl;have J:=WrX.cell ad.o 3 (v:= ω st) rfl;have M:=WrX.cell ad.o 4 (v:= ω sc) rfl;have N:=WrX.cell ad.o 5 (v:= δ os ss.length au) rfl;have O:=WrX.cell ad.o 6 (v:= μ has) rfl;have U:=WrX.cell ad.o 7 (v:= φ pr) rfl;have Y:=WrX.cell ad.o 8 (v:= δ av ex.length ke) rfl;have aa:=WrX.cell ad.o 9 (v:= δ aw pl.length ar) rfl;generalize aP:PX++ssB ss=PY at *;have bB:=κ aP;clear aP
   go_upto_if 56 with fail
   go_cut [] from 57 (λaq=>WrX w aq W3.heap.size w.heap.size (.cells #[μ mr,υ ty,φ sq,ω st,ω sc,δ os ss.length au,has,φ pr,δ av ex.length ke,δ aw pl.length ar] 63) (PY++ap))
   case first=>
    cases has with
    | false=>
     have aC:=κ (bv.o η);go_wp2;go_meet;rw[aC.o,ε];exact ad.o
    | true=>
     have aC:=κ (bw.o η);obtain⟨v9,bh⟩:=ad.o;have aN:=κ bh;have cy:((ex.length:Int)).tdiv 4=(ex.length:Int)/4:=P5 τ;clear bh
     go_wp2_with first | (go_at_call 94;((with_reducible refine(kU aN.o.wr pr τ τ).mono ?_);rintro e cf ⟨rfl,bn⟩;obtain⟨cb,aW⟩:=aN.o.wrote bn;have al:=κ aW;clear aW bn d H I J M N O U Y aa;have d:=β0 al.o.keep;have H:=β1 al.o.keep;have I:=β2 al.o.keep;have J:=β3 al.o.keep;have M:=β4 al.o.keep;have N:=β5 al.o.keep;have O:=β6 al.o.keep;have U:=β7 al.o.keep;have Y:=β8 al.o.keep;have aa:=β9 al.o.keep)) | (go_at_call 94;((with_reducible refine(kU al.o.wr ((ex.length:Int)/4) τ (by have:=ju pr 2;simp only[Ϗ] at *;omega)).mono ?_);rintro e cg ⟨rfl,bo⟩;obtain⟨cc,aX⟩:=al.o.wrote bo;have ag:=κ aX;clear aX bo d H I J M N O U Y aa;have d:=β0 ag.o.keep;have H:=β1 ag.o.keep;have I:=β2 ag.o.keep;have J:=β3 ag.o.keep;have M:=β4 ag.o.keep;have N:=β5 ag.o.keep;have O:=β6 ag.o.keep;have U:=β7 ag.o.keep;have Y:=β8 ag.o.keep;have aa:=β9 ag.o.keep)) | (go_at_call 96;(go_call uU ag.o.wr _ ex (ax.o.e.keep ag.o.more) (by have:=ju pr 2;have:=ju ((ex.length:Int)/4) 2;simp only[Ϗ] at *;omega) as e ch ⟨rfl,bp⟩;obtain⟨bk,aY⟩:=ag.o.wrote bp;have bG:=κ aY;clear aY bp))
     go_meet;rw[aC.o];exact⟨bk,by have:=bG.o;simpa only[ϭ] using this⟩
   case rest=>
    obtain⟨cd,aZ⟩:=hcut;have ah:=κ aZ;clear aZ ad d H I J M N O U Y aa;have d:=β0 ah.o.keep;have H:=β1 ah.o.keep;have I:=β2 ah.o.keep;have J:=β3 ah.o.keep;have M:=β4 ah.o.keep;have N:=β5 ah.o.keep;have O:=β6 ah.o.keep;have U:=β7 ah.o.keep;have Y:=β8 ah.o.keep;have aa:=β9 ah.o.keep;have cw:(PY++ap).length<=20000:=by rw[Ϗ];omega
    go_wp2_with first | (go_at_call 96;(go_call uU ah.o.wr _ pl (ax.o.l.keep ah.o.more) τ as e cQ ⟨rfl,bq⟩;obtain⟨cM,ba⟩:=ah.o.wrote bq;have aD:=κ ba;clear ba bq d H I J M N O U Y aa)) | (go_at_call 97;(go_call wZ aD.o.wr (by rw[Ϗ];omega) as e cR ⟨cN,rfl,aS,aR⟩;have bz:=κ aS;have bx:=κ aR;clear aS aR))
    go_ret2
    refine⟨⟨_,rfl, ?_⟩,aD.o.more.trans bx.o⟩;have:=kq bz.o aD.o.more.size;rw[<-bB.o,<-bA.o] at this;exact this
def jY {e:Nat} {cur:Array Value} (h:w.heap[g]? =ϊ (.cells cur e (0,0))) (cs:Array Value):(w.setRow g cs).heap[g]? =ϊ (.cells cs e (0,0)):=setRow_heap w g cur cs e (0,0) h
def EC (w:World) (g:Nat) (cs:Array Value):jt (λk=>k=g) w (w.setRow g cs):=by
 refine⟨rfl,rfl,rfl,by simp[World.setRow],λb H d=> ?_⟩;unfold World.setRow;simp only;rw[G0,ώ (λe=>d e.symm)]
def qS {o:Obj} (h:w.heap[b]? =ϊ o) (cs:Array Value) (d:b≠g):(w.setRow g cs).heap[b]? =ϊ o:=(EC w g cs).blk h d
def jt.row {a b:World} (h:jt S a b) (d:S g) (cs:Array Value):jt S a (b.setRow g cs):=h.trans ((EC b g cs).mono λk e=>by rw[e];exact d)
def jt.rowNew {a b:World} (h:jt S a b) (H:a.heap.size<=g) (cs:Array Value):jt S a (b.setRow g cs):=by
 have k:=EC b g cs;exact⟨k.os.trans h.os,k.tape.trans h.tape,k.output.trans h.output,Ϙ h.size k.size,λi hi d=>by rw[k.block i (ϗ hi h.size) τ];exact h.block i hi d⟩
def jt.alc {a b:World} (h:jt S a b) (o:Obj):jt S a (b.alloc o):=h.more X8
def jt.grown {a b c:World} (h:jt S a b) {v:Option Nat} (g:b.grownBy c v) (I: ∀k,v=ϊ k->a.heap.size<=k):jt S a c:=
 ⟨g.os.trans h.os,g.tape.trans h.tape,g.output.trans h.output,Ϙ h.size g.size,λk d H=>by rw[g.block k (ϗ d h.size) (λe=>by have:=I k e.symm;omega)];exact h.block k d H⟩
def Wr: ∀(css:List (List Value)) (i j:Nat),(∀c∈css,c.length=n)->i<css.length->j<n->css.flatten[i* n+j]? =(css.getD i [])[j]?
 | [],_,_,_,h,_=>ϩ h η
 | c::css,0,j,hl,_,hj=>by
  have:=hl c η;rw[D5,N3,E9,Θ τ];rfl
 | c::css,i+1,j,hl,hi,hj=>by
  have d:=hl c η;rw[D5,Γ (by rw[d,G4];omega),d,show (i+1)* n+j-n=i* n+j by rw[G4];omega];exact Wr css i j (λH I=>hl H (by simp[I])) (by simpa using hi) hj
def DN: ∀(css:List (List Value)),(∀c∈css,c.length=n)->css.flatten.length=css.length* n
 | [],_=>by simp
 | c::css,h=>by
  rw[D5,Ϗ,DN css λd H=>h d (by simp[H]),h c η,ϙ,G4];omega
def Yq (z:Array Value) (k n:Nat) (H:z.size=k) (d:0<k):madeCells z (n* k)=(List.replicate n z.toList).flatten.toArray:=by
 apply Array.ext';apply K9;intro j;have I: ∀c∈List.replicate n z.toList,c.length=k:=λc Y=>by rw[G2 Y];simpa using H
 by_cases hj:j<n* k
 ·have M:j/k<n:=by rw[T1 d];exact hj
  have N:j/k* k+j%k=j:=by rw[Nat.mul_comm];exact Nat.div_add_mod j k
  have J:j%k<z.size:=by rw[H];exact J3 _ d
  have:=Wr (n:=k) (List.replicate n z.toList) (j/k) (j%k) I (by simpa using M) (J3 _ d);rw[N] at this;show (madeCells z (n* k)).toList[j]? =(List.replicate n z.toList).flatten[j]?;rw[this];unfold madeCells;simp[hj,M,H,List.getElem?_replicate];rw[I9 J,getElem!_pos z (j%k) J]
 ·have O:(madeCells z (n* k)).toList[j]? =ϋ:=by rw[M3,M6,size_madeCells];omega
  have U:(List.replicate n z.toList).flatten[j]? =ϋ:=by rw[M3,DN _ I,List.length_replicate];omega
  rw[O];exact U.symm
def xQ (cur:List Value) (o:Nat) (vs:List Value):List Value:=cur.take o++vs++cur.drop (o+vs.length)
def JO: ∀(css:List (List Value)) (k:Nat) (c:List Value),(∀d∈css,d.length=n)->c.length=n->k<css.length->xQ css.flatten (k* n) c=(css.set k c).flatten
 | [],_,_,_,_,h=>ϩ h η
 | d::css,0,c,hl,hc,_=>by
  have H:=hl d η;unfold xQ;rw[N3,V1,J0,E9,D5,G5 τ,I3 τ,J0,List.set_cons_zero,D5]
 | d::css,k+1,c,hl,hc,hk=>by
  have H:=hl d η;have I:=JO css k c (λe M=>hl e (by simp[M])) hc (by simpa using hk);unfold xQ at I ⊢;rw[List.set_cons_succ,D5,D5,<-I];have J:(k+1)* n=d.length+k* n:=by rw[H,G4];omega
  rw[J,List.take_length_add_append,M7,List.drop_length_add_append];simp
def xy {t:Nat} (h:w.heap[g]? =ϊ (.cells cs.toArray t (0,0))):w.rangeAt g 0 cs:=λj v d=>by
 rw[cell_of_row w g (0+j) cs.toArray t (0,0) h,E9,A4];exact d
section
variable {P:Program} {C:World->Prop}
def jh {l:List Oper} {T:Nat} {Q:Act->World->Prop} {k:Nat} {o:Oper} {rest:List (Nat×Bool)} (Y:l[k]? =ϊ o) (I:Region.wanted o (yielded l.toArray a.tmps)=ό) (M:C w)
  (d:TypeId) (x:Operand) (aa:o.op= .load d x) (b J:Nat) (ac:a.eval x= π (ϊ ⟨b,J,ϋ⟩)) (cs:List Value) (H:TypeDesc) (O: ∀w,C w->w.rangeAt b J cs)
  (ab:P.underlying d=ϊ H) (U:H.isRow=ό) (hi:(P.info? d).map (·.size)=ϊ cs.length)
  (h: ∀K:Act->Prop,(∀a,zU P l T C Q rest a w->K a)->K (a.put o.dst (θ cs.toArray))):zU P l T C Q ((k,ύ)::rest) a w:=
 qE Y I M λK N=>⟨θ cs.toArray,λw I=>by
  unfold Oper.quietAt execOp;simp only[aa,ac,Instr.loadAt,Instr.sureAddr,Sem.run_bind,Sem.run_pure,Result.andThen_ok,run_loadVar_mid w b J d cs H (O w I) ab U hi]
  exact⟨rfl,rfl⟩,h K N⟩
def YT (H:TypeId) (g d:Nat) (e:TypeId) (cur:Array Value) (cs:List Value) (N:w.heap[g]? =ϊ (.cells cur e (0,0))) (M:d+cs.length<=cur.size)
  (hi:(P.info? H).map (·.size)=ϊ cs.length) (J: ∀u∈cs,u.oneCell'=ό):
  (Instr.storeAt H (π (ϊ ⟨g,d,ϋ⟩)) (θ cs.toArray)).run P w= .ok () (w.setRow g (xQ cur.toList d cs).toArray):=by
 have I:=run_storeCells_at P g d e cs 0 cur w N (by simpa using M) J;cases hq:P.info? H with
 | none=>simp[hq] at hi
 | some i=>
  have O:cs.length=i.size:=by simp[hq] at hi;omega
  simp only[G1] at I;unfold xQ;simp[Instr.storeAt,Instr.sureAddr,storeVar,sizeOf,typeInfo,hq,Value.cells,O,I]
def zF {o:Oper} (H:TypeId) (x y:Operand) (N:o.op= .store H x y) (g d:Nat) (e:TypeId) (cur:Array Value) (cs:List Value)
  (O:a.eval x= π (ϊ ⟨g,d,ϋ⟩)) (U:a.eval y= θ cs.toArray) (M:w.heap[g]? =ϊ (.cells cur e (0,0))) (J:d+cs.length<=cur.size) (hi:(P.info? H).map (·.size)=ϊ cs.length) (I: ∀u∈cs,u.oneCell'=ό)
  (h:C (w.setRow g (xQ cur.toList d cs).toArray)/\K (a.put o.dst undef) (w.setRow g (xQ cur.toList d cs).toArray)):jn P C o a w K:=by
 unfold jn execOp;simp only[N,O,U,Sem.run_bind,Sem.run_pure,Result.andThen_ok,YT H g d e cur cs M J hi I];exact h
def jr {o:Oper} (H:TypeId) (x y:Operand) (M:o.op= .store H x y) (g:Nat) (e:TypeId) (c d:Array Value)
  (O:a.eval x= γ g) (U:a.eval y= θ d) (J:w.heap[g]? =ϊ (.cells c e (0,0))) (hi:(P.info? H).map (·.size)=ϊ d.size) (N:c.size=d.size) (I:d.all (·.oneCell')=ό)
  (h:C (w.setRow g d)/\K (a.put o.dst undef) (w.setRow g d)):jn P C o a w K:=by
 unfold jn execOp;simp only[M,O,U,Instr.storeAt,Instr.sureAddr,Sem.run_bind,Sem.run_pure,Result.andThen_ok,run_storeVar_row w g e H c d J hi N I];exact h
def xW {o:Oper} (N:o.guard=ϋ) (H:TypeId) (x y:Operand) (O:o.op= .store H x y)
  (g:Nat) (t:TypeId) (c d:Array Value) (M:w.heap[g]? =ϊ (.cells c t (0,0))) (Y:a.eval x= γ g) (aa:a.eval y= θ d)
  (hi:(P.info? H).map (·.size)=ϊ d.size) (U:c.size=d.size) (I:d.all (·.oneCell')=ό)
  (h:wpList P ops Q rest (a.put o.dst undef) (w.setRow g d)):wpList P ops Q (o::rest) a w:=by
 refine wpList_plain N λK J=> ?_
 unfold Oper.wp execOp;simp only[O,Y,aa,Instr.storeAt,Instr.sureAddr,Sem.run_bind,Sem.run_pure,Result.andThen_ok,run_storeVar_row w g t H c d M hi U I];exact J _ _ h
def yL {o:Oper} (p:Op) (_:o.op=p) (h:wpList P ops Q (o::rest) a w):wpList P ops Q (o::rest) a w:=h
def vO {o:Oper} (N:o.guard=ϋ) (d:TypeId) (x:Operand) (O:o.op= .load d x)
  (g:Nat) (t:TypeId) (c:Array Value) (H:TypeDesc) (M:w.heap[g]? =ϊ (.cells c t (0,0))) (Y:a.eval x= γ g)
  (U:P.underlying d=ϊ H) (J:H.isRow=ό) (hi:(P.info? d).map (·.size)=ϊ c.size)
  (h:wpList P ops Q rest (a.put o.dst (θ c)) w):wpList P ops Q (o::rest) a w:=by
 have I:w.rangeAt g 0 c.toList:=by
  have:=World.rangeAt_of_block M 0 c.size;rw[E9,Array.extract_size] at this;exact this
 have:=wpList_load_mid (P:=P) (ops:=ops) (rest:=rest) (op:=o) (a:=a) (w:=w) (Q:=Q) N d x O g 0 Y c.toList H I U J (by rw[hi];simp);simp only[Array.toArray_toList] at this;exact this h
def kW (w:World) (t aa e:TypeId) (z:Value) (d:List Value) (N:P.underlying t=ϊ (.slice e)) (O: ∀w,(zeroValue e).run P w= .ok z w) (U:(Builtin.zeroCells z.cells 1).toList=d) (g o c:Nat) (cur:Array Value) (M:w.heap[g]? =ϊ (.cells cur e (0,0)))
  (J:o+d.length<=cur.size) (I: ∀v∈d,v.oneCell'=ό):
  (Builtin.clear_ #[t] aa #[δ (ϊ ⟨g,o,ϋ⟩) 1 c]).run P w= .ok (.tuple #[]) (w.setRow g (xQ cur.toList o d).toArray):=by
 have Y:Builtin.zeroCells z.cells 1=d.toArray:=by
  rw[<-U]
 have H:=run_storeCells_at P g o e d 0 cur w M (by simpa using J) I;simp only[G1] at H;unfold xQ;simp[Builtin.clear_,run_underlying N,O w,Y,H]
end
def jV (A room first q:Nat) (ci co cd cg:Int):Array Value:=
 #[.slice (ϊ ⟨A,0,ϋ⟩) room room,.int .i64 first,.int .i64 q,.bool ύ,.int .i64 ci,.int .i64 co,.int .i64 cd,.int .i64 cg]
structure qN (n tr te:Nat) (w:World) (R A room first:Nat) (q:List (List Value)) (ci co cd cg:Int) (css:List (List Value)):Prop where
 ring:w.heap[R]? =ϊ (.cells (jV A room first q.length ci co cd cg) tr (0,0))
 row:w.heap[A]? =ϊ (.cells css.flatten.toArray te (0,0))
 ne:R≠A
 len:css.length=room
 all: ∀c∈css,c.length=n/\ ∀u∈c,u.oneCell'=ό
 pos:1<=room/\room<=8
 fst:first<room
 fits:q.length<=room
 holds: ∀i,i<q.length->css.getD ((first+i)%room) []=q.getD i []
def RgB (R A:Nat) (b:Nat):Prop:=b=R∨b=A
def Mb (first i room:Nat):((first+1)%room+i)%room=(first+(i+1))%room:=by
 rw[Nat.mod_add_mod];congr 1;omega
def DO {first i room:Nat} (h:first<room) (hi:i<room):(first+i)%room=if first+i<room then first+i else first+i-room:=by
 split
 ·exact R0 (by assumption)
 ·rw[Nat.mod_eq_sub_mod τ,R0 τ]
section
variable {n tr te:Nat} {w w':World} {R A room first:Nat} {q:List (List Value)} {ci co cd cg:Int} {css:List (List Value)}
def qN.away (h:qN n tr te w R A room first q ci co cd cg css) (a:jt S w w') (H: ¬S R) (d: ¬S A):qN n tr te w' R A room first q ci co cd cg css:=
 {h with ring:=a.blk h.ring H,row:=a.blk h.row d}
def qN.more (h:qN n tr te w R A room first q ci co cd cg css) (m:ql w w'):qN n tr te w' R A room first q ci co cd cg css:=
 {h with ring:=qq m h.ring,row:=qq m h.row}
def qN.ctr (h:qN n tr te w R A room first q ci co cd cg css) (i:Nat) (v:Value) {I J d H:Int} (e:(jV A room first q.length ci co cd cg).setIfInBounds i v=jV A room first q.length I J d H):qN n tr te (w.setCell ⟨R,i,ϋ⟩ v) R A room first q I J d H css:=
 {h with ring:=qB (qp h.ring i v) e,row:=qo h.row _ _ (C4 h.ne)}
def qN.popped (h:qN n tr te w R A room first q ci co cd cg css) (v:Int):qN n tr te (w.setCell ⟨R,5,ϋ⟩ (ι v)) R A room first q ci v cd cg css:=h.ctr 5 _ rfl
def qN.dropped (h:qN n tr te w R A room first q ci co cd cg css) (v:Int):qN n tr te (w.setCell ⟨R,6,ϋ⟩ (ι v)) R A room first q ci co v cg css:=h.ctr 6 _ rfl
def qN.drained (h:qN n tr te w R A room first q ci co cd cg css) (v:Int):qN n tr te (w.setCell ⟨R,7,ϋ⟩ (ι v)) R A room first q ci co cd v css:=h.ctr 7 _ rfl
def yo {P:Program} {p u:Tmp} {d:TypeId} (h:J.results= #[.cell p d,.tmp u]) (tmps:Array Value) (w:World) (g:Nat) (t:TypeId) (cs:Array Value) (H:TypeDesc) (I:Value)
  (O:tmps.getD p undef= γ g) (Y:tmps.getD u undef=I) (N:w.heap[g]? =ϊ (.cells cs t (0,0)))
  (ab:P.underlying d=ϊ H) (M:(match H with | .struct _ | .array _ _=>ό | _=>ύ)=ό) (hi:(P.info? d).map (·.size)=ϊ cs.size):
  (results J tmps).run P w= .ok (.tuple #[θ cs,I]) w:=by
 have U:tmps[p]?.getD undef= γ g:=by simpa using O
 have aa:tmps[u]?.getD undef=I:=by simpa using Y
 simp[results,h,U,aa,asAddr,run_loadVar_row w g t d cs (0,0) H N ab M hi]
def KW {P:Program} {p u s:Tmp} {d:TypeId} (h:J.results= #[.cell p d,.tmp u,.tmp s]) (tmps:Array Value) (w:World) (g:Nat) (t:TypeId) (cs:Array Value) (H:TypeDesc) (I v3:Value)
  (O:tmps.getD p undef= γ g) (Y:tmps.getD u undef=I) (ab:tmps.getD s undef=v3) (N:w.heap[g]? =ϊ (.cells cs t (0,0)))
  (ad:P.underlying d=ϊ H) (M:(match H with | .struct _ | .array _ _=>ό | _=>ύ)=ό) (hi:(P.info? d).map (·.size)=ϊ cs.size):
  (results J tmps).run P w= .ok (.tuple #[θ cs,I,v3]) w:=by
 have U:tmps[p]?.getD undef= γ g:=by simpa using O
 have aa:tmps[u]?.getD undef=I:=by simpa using Y
 have ac:tmps[s]?.getD undef=v3:=by simpa using ab
 simp[results,h,U,aa,ac,asAddr,run_loadVar_row w g t d cs (0,0) H N ad M hi]
def qN.cl (h:qN n tr te w R A room first q ci co cd cg css): ∀c∈css,c.length=n:=λc d=>(h.all c d).1
def qN.size (h:qN n tr te w R A room first q ci co cd cg css):css.flatten.toArray.size=room* n:=by rw[G9,DN css h.cl,h.len]
def qN.range (h:qN n tr te w R A room first q ci co cd cg css) {k:Nat} (M:k<room):w.rangeAt A (k* n) (css.getD k []):=λj v H=>by
 have d:k<css.length:=by rw[h.len];exact M
 have I:(css.getD k []).length=n:=by
  rw[ϒ,ϖ d];exact h.cl _ (ϡ d)
 have J:j<n:=by rw[<-I];exact(ϟ.1 H).1
 rw[cell_of_row w A (k* n+j) css.flatten.toArray te (0,0) h.row,A4,Wr css k j h.cl d J];exact H
def qN.head (h:qN n tr te w R A room first (c::T) ci co cd cg css):css.getD first []=c:=by
 have:=h.holds 0 η;rw[G1,R0 h.fst] at this;exact this
def qN.ofHead (h:qN n tr te w R A room first (c::T) ci co cd cg css):c.length=n/\ ∀u∈c,u.oneCell'=ό:=by
 rw[<-h.head];have d:first<css.length:=by rw[h.len];exact h.fst
 rw[ϒ,ϖ d];exact h.all _ (ϡ d)
def qN.qall (h:qN n tr te w R A room first q ci co cd cg css): ∀c∈q,c.length=n/\ ∀u∈c,u.oneCell'=ό:=λc H=>by
 obtain⟨i,hi,rfl⟩:=A0.1 H;have:=h.holds i hi;rw[ϒ,ϒ,ϖ hi,ϣ] at this;rw[<-this];have d:(first+i)%room<css.length:=by rw[h.len];exact J3 _ (by have:=h.pos;omega)
 rw[ϖ d];exact h.all _ (ϡ d)
def WH {p:List Value->Prop} {k:Nat} (h: ∀c∈css,p c) (H:p z): ∀c∈css.set k z,p c:=λc d=>by
 rcases List.mem_or_eq_of_mem_set d with h1 | rfl
 ·exact h c h1
 ·exact H
def qN.took (h:qN n tr te w R A room first (c::T) ci co cd cg css) (ab:z.length=n/\ ∀u∈z,u.oneCell'=ό) {I J d H:Int}
  (Y:w'.heap[R]? =ϊ (.cells (jV A room ((first+1)%room) T.length I J d H) tr (0,0))) (aa:w'.heap[A]? =ϊ (.cells (css.set first z).flatten.toArray te (0,0))):qN n tr te w' R A room ((first+1)%room) T I J d H (css.set first z):=by
 have N:=h.fits;simp at N;refine⟨Y,aa,h.ne,by rw[O4];exact h.len,WH h.all ab,h.pos,J3 _ (by have:=h.pos;omega),τ,λi hi=> ?_⟩;rw[Mb];have U:=h.holds (i+1) (by simp;omega);have M:=h.fst;have O:(first+(i+1))%room≠first:=by
  intro e;rw[DO M τ] at e;split at e<;>omega
 rw[ϒ,J2 (C4 O),<-ϒ,U];rfl
def qN.put (h:qN n tr te w R A room first q ci co cd cg css) (Y:q.length<room) (O:c.length=n/\ ∀u∈c,u.oneCell'=ό) {J M H I:Int}
  (aa:w'.heap[R]? =ϊ (.cells (jV A room first (q.length+1) J M H I) tr (0,0))) (ab:w'.heap[A]? =ϊ (.cells (css.set ((first+q.length)%room) c).flatten.toArray te (0,0))):qN n tr te w' R A room first (q++[c]) J M H I (css.set ((first+q.length)%room) c):=by
 refine⟨by simpa using aa,ab,h.ne,by rw[O4];exact h.len,WH h.all O,h.pos,h.fst,by simp;omega,λi hi=> ?_⟩;have N:=h.fst;simp at hi;by_cases e:i=q.length
 ·subst e;rw[ϒ,R8 (by rw[h.len];exact J3 _ τ)];simp
 ·have U:(first+i)%room≠(first+q.length)%room:=by
   intro d;rw[DO N τ,DO N Y] at d;split at d<;>split at d<;>omega
  rw[ϒ,J2 (C4 U),<-ϒ,h.holds i τ];simp only[ϒ];rw[Θ τ]
end
def Wt (zs:List Value) (first room:Nat) (q0 css:List (List Value)) (cd:Int):Bool->List Value->Nat->List (List Value)->Int->List (List Value)->Prop
 | false,old,f,q,cd',cs=>old=zs/\f=first/\q=q0/\cd'=cd/\cs=css
 | true,old,f,q,_,cs=>q0=old::q/\f=(first+1)%room/\cs=css.set first zs
def jj (n:Int):Bool:=decide (0<=n/\n<3)
def Ψ1 (h:P:=by
 have H:Hid (jj n=decide (0<=n/\n<3)):=κ rfl;by_cases h1:0<=n
 ·by_cases h2:n<3
  ·have d:jj n=ό:=by rw[H.o];simp[h1,h2]
   rw[d]
   go_enter Ξa,Ξb
   go_wp2
   all_goals (go_ret;first | exact⟨rfl,rfl⟩ | omega)
  ·have d:jj n=ύ:=by rw[H.o];simp[h2]
   rw[d]
   go_enter Ξa,Ξb
   go_wp2
   all_goals (go_ret;first | exact⟨rfl,rfl⟩ | omega)
 ·have d:jj n=ύ:=by rw[H.o];simp[h1]
  rw[d]
  go_enter Ξa,Ξb
  go_wp2
  all_goals (go_ret;first | exact⟨rfl,rfl⟩ | omega)):P:=h
section
open _root_.Go.Proofs.Tryz renaming func207->Ξa,ntmps207->Ξb
def YQ (n:Int) (w:World):Calls prog 207 #[ι n] w λe w'=>e= .returned (μ (jj n))/\w'=w:=Ψ1
end
section
open _root_.Go.Proofs.Tryz renaming func151->Ξa,ntmps151->Ξb
def xX (n:Int) (w:World):Calls prog 151 #[ι n] w λe w'=>e= .returned (μ (jj n))/\w'=w:=Ψ1
end
def QT (c t n:Int) (d:jj n=ό) (w:World):Calls prog 152 #[θ #[ι c,ι t],ι n] w λe w'=>e= .returned (.tuple #[θ #[ι c,ι n],ι 0])/\ql w w':=by
 have H:=κ d;clear d
 go_enter func152,ntmps152
 go_wp2_with (first | (go_at_call 207;((with_reducible refine(YQ n _).mono ?_);rintro e w1 ⟨rfl,rfl⟩;rw[H.o])))
 refine bodyPost_ret (v:= .tuple #[θ #[ι c,ι n],ι 0]) (by simp[results,results152,go_sem]) rfl ?_;exact⟨rfl,ρ⟩
def YS (n:Int) (I:jj n=ό) (w:World):Calls prog 153 #[ι n] w λe w'=>e= .returned (.tuple #[θ #[ι (-1),ι n],ι 0])/\ql w w':=by
 have J:=κ I;clear I
 go_enter func153,ntmps153
 go_wp2_with (first | (go_at_call 152;(go_call QT (-1) 0 n J.o _ as e w1 ⟨rfl,d⟩;have H:Hid (w1.heap[w.heap.size]? =ϊ (.cells #[ι 0,ι 0] 103 (0,0))):=κ (qq d (qj _ _));have M:=κ (X8.trans d);clear d)) | (refine yL (.store 103 (.tmp 2) (.tmp 7)) rfl ?_;refine xW rfl 103 (.tmp 2) (.tmp 7) rfl w.heap.size 103 _ #[ι (-1),ι n] H.o rfl rfl ξ rfl (all_oneCell_toArray X9) ?_))
 refine bodyPost_ret (v:= .tuple #[θ #[ι (-1),ι n],ι 0]) (yo results153 _ _ w.heap.size 103 #[ι (-1),ι n] _ _ rfl rfl (jY H.o _) underlying103 rfl ξ) rfl ?_;exact⟨rfl,(EC _ _ _).to_more M.o (λk e=>by rw[e];exact ϔ _)⟩
def Uo (c t n:Int) (k:Bool) (d:(n==c)=ό) (H:(n != c)=ύ) (w:World):Calls prog 198 #[θ #[ι c,ι t],ι n,k] w λe w'=>e= .returned (.tuple #[θ #[ι c,ι t],ι 0,ύ])/\ql w w':=by
 go_enter func198,ntmps198
 go_wp2;refine bodyPost_ret (v:= .tuple #[θ #[ι c,ι t],ι 0,ύ]) (by simp[results,results198,go_sem]) rfl ?_;exact⟨rfl,ρ⟩
def Up (c t n:Int) (k:Bool) (d:(n != c)=ό) (H:(n==t)=ό) (I:k=ό) (w:World):Calls prog 198 #[θ #[ι c,ι t],ι n,k] w λe w'=>e= .returned (.tuple #[θ #[ι n,ι t],ι 0,ό])/\ql w w':=by
 go_enter func198,ntmps198
 go_wp2;refine bodyPost_ret (v:= .tuple #[θ #[ι n,ι t],ι 0,ό]) (by simp[results,results198,go_sem]) rfl ?_;exact⟨rfl,ρ⟩
def V9 (c t n:Int) (k:Bool) (H:(n != c)=ό) (d:(n==c)=ύ) (I:(n==t)=ό) (J:k=ύ) (w:World):Calls prog 198 #[θ #[ι c,ι t],ι n,k] w λe w'=>e= .returned (.tuple #[θ #[ι c,ι t],ι 5,ύ])/\ql w w':=by
 go_enter func198,ntmps198
 go_wp2;refine bodyPost_ret (v:= .tuple #[θ #[ι c,ι t],ι 5,ύ]) (by simp[results,results198,go_sem]) rfl ?_;exact⟨rfl,ρ⟩
def AG (c t n:Int) (k:Bool) (H:(n != c)=ό) (d:(n==c)=ύ) (I:(n==t)=ύ) (w:World):Calls prog 198 #[θ #[ι c,ι t],ι n,k] w λe w'=>e= .returned (.tuple #[θ #[ι c,ι t],ι 4,ύ])/\ql w w':=by
 go_enter func198,ntmps198
 go_wp2;refine bodyPost_ret (v:= .tuple #[θ #[ι c,ι t],ι 4,ύ]) (by simp[results,results198,go_sem]) rfl ?_;exact⟨rfl,ρ⟩
def Ka (m:Int) (d:1<=m) (H:m<=10) (w:World):Calls prog 149 #[ι m] w λe w'=>e= .returned (.tuple #[θ #[ι m,ι 0,ύ],ι 0])/\ql w w':=by
 go_enter func149,ntmps149
 go_wp2;refine bodyPost_ret (v:= .tuple #[θ #[ι m,ι 0,ύ],ι 0]) (by simp[results,results149,go_sem]) rfl ?_;exact⟨rfl,ρ⟩
def Zf (s q t:Int) (w:World):Calls prog 150 #[ω s,φ q,ω t] w λe w'=>e= .returned (θ #[ω s,φ q,ω t,ύ,ω 0,ω 0])/\ql w w':=by
 go_enter func150,ntmps150
 go_wp2;refine bodyPost_ret (v:= θ #[ω s,φ q,ω t,ύ,ω 0,ω 0]) (by simp[results,results150,go_sem]) rfl ?_;exact⟨rfl,ρ⟩
def XP (m r:Int) (g:Bool) (w:World):Calls prog 234 #[θ #[ι m,ι r,g]] w λe w'=>e= .returned (θ #[ι m,ι 0,g])/\ql w w':=by
 go_enter func234,ntmps234
 go_wp2;refine bodyPost_ret (v:= θ #[ι m,ι 0,g]) (by simp[results,results234,go_sem]) rfl ?_;exact⟨rfl,ρ⟩
def Zg (m r:Int) (g:Bool) (d:0<=r) (H:r<=10) (w:World):Calls prog 233 #[θ #[ι m,ι r,g]] w λe w'=>e= .returned (θ #[ι m,ι (r+1),(r+1==m)])/\ql w w':=by
 go_enter func233,ntmps233
 go_wp2;refine bodyPost_ret (v:= θ #[ι m,ι (r+1),(r+1==m)]) (by simp[results,results233,go_sem]) rfl ?_;exact⟨rfl,ρ⟩
def UL (m r:Int) (a:Bool) (w:World):Calls prog 176 #[θ #[ι m,ι r,ό],a] w λe w'=>e= .returned (.tuple #[θ #[ι m,ι r,ό],ύ])/\ql w w':=by
 go_enter func176,ntmps176
 go_wp2;refine bodyPost_ret (v:= .tuple #[θ #[ι m,ι r,ό],ύ]) (by simp[results,results176,go_sem]) rfl ?_;exact⟨rfl,ρ⟩
def Pj (m r:Int) (w:World):Calls prog 176 #[θ #[ι m,ι r,ύ],ό] w λe w'=>e= .returned (.tuple #[θ #[ι m,ι 0,ύ],ύ])/\ql w w':=by
 have U:=κ (XP m r ύ)
 go_enter func176,ntmps176
 go_wp2_with (refine(U.o _).mono ?_;rintro e w1 ⟨rfl,M⟩;have I:Hid (w1.heap[w.heap.size+1]? =ϊ (.cells #[ι 0,ι 0,ύ] 151 (0,0))):=κ (qq M (qC η));have O:Hid (ql w w1):=κ ((X8.al _).trans M);clear M)
 obtain⟨W1,H⟩:=ν (w1.alloc (.cells #[ι m,ι 0,ύ] 151));have aa:Hid (ql w W1):=κ (by rw[<-H];exact O.o.al _);have N:Hid (W1.heap[w.heap.size+1]? =ϊ (.cells #[ι 0,ι 0,ύ] 151 (0,0))):=κ (by rw[<-H];exact qs I.o _);have J:Hid (W1.heap[w1.heap.size]? =ϊ (.cells #[ι m,ι 0,ύ] 151 (0,0))):=κ (by rw[<-H];exact qj w1 _);rw[H];clear H O;have Y: ∀x:qz (λb=>b=w.heap.size+1) W1,x.w'.rangeAt w1.heap.size 0 [ι m,ι 0,ύ]:=λx=>xy (x.h.blk J.o (by have:=qn I.o;omega))
 have ac: ∀x:qz (λb=>b=w.heap.size+1) W1,x.w'.cell? ⟨w1.heap.size,2,ϋ⟩=ϊ (μ ύ):=λx=>x.cell (qn J.o) (by have:=qn I.o;omega) (qm J.o 2 rfl)
 clear I;refine QN (λb=>b=w.heap.size+1) W1 4 5 [3,4] ?_;refine jh rfl rfl (qi σ) 151 (.tmp 7) rfl w1.heap.size 0 rfl [ι m,ι 0,ύ] _ (λw' ab=>by obtain⟨x,rfl⟩:=ab;exact Y x) underlying151 rfl ξ ?_;intro K d;go_simp;refine d _ ?_;clear d K
 refine Qs2 ?_
 refine jR rfl rfl ?_;intro K d;refine jr 151 (.tmp 4) (.tmp 18) rfl (w.heap.size+1) 151 _ #[ι m,ι 0,ύ] rfl rfl (qr N.o 1) ξ rfl (all_oneCell_toArray X9) ?_;refine⟨qi (((jt.refl (λb=>b=w.heap.size+1) W1).drewN 1).row (g:=w.heap.size+1) rfl _), ?_⟩;go_simp;refine d _ _ ?_;clear d K
 (refine Qe ?_;intro K d)
 refine d _ _ ?_;clear d K;refine qA ?_;go_wp2;refine bodyPost_ret (v:= .tuple #[θ #[ι m,ι 0,ύ],ύ]) (yo results176 _ _ (w.heap.size+1) 151 #[ι m,ι 0,ύ] _ _ rfl rfl (jY (qr N.o 1) _) underlying151 rfl ξ) rfl ?_;exact⟨rfl,(EC _ _ _).to_more (aa.o.dr 1) (λk e=>by rw[e];exact K5 _)⟩
def BD (m r:Int) (ad:0<=r) (ae:r<=10) (q:Int) (b:Bool) (aa:r+1=q) (Y:(q==m)=b) (w:World):Calls prog 176 #[θ #[ι m,ι r,ύ],ύ] w λe w'=>e= .returned (.tuple #[θ #[ι m,ι q,b],b])/\ql w w':=by
 have J:=Zg m r ύ ad ae;rw[aa,Y] at J;have J:=κ J;clear aa Y
 go_enter func176,ntmps176
 go_wp2_with (refine(J.o _).mono ?_;rintro e w1 ⟨rfl,N⟩;have I:Hid (w1.heap[w.heap.size+1]? =ϊ (.cells #[ι 0,ι 0,ύ] 151 (0,0))):=κ (qq N (qC η));have U:Hid (ql w w1):=κ ((X8.al _).trans N);clear N)
 obtain⟨W1,H⟩:=ν (w1.alloc (.cells #[ι m,ι q,b] 151));have ac:Hid (ql w W1):=κ (by rw[<-H];exact U.o.al _);have O:Hid (W1.heap[w.heap.size+1]? =ϊ (.cells #[ι 0,ι 0,ύ] 151 (0,0))):=κ (by rw[<-H];exact qs I.o _);have M:Hid (W1.heap[w1.heap.size]? =ϊ (.cells #[ι m,ι q,b] 151 (0,0))):=κ (by rw[<-H];exact qj w1 _);rw[H];clear H U;have ab: ∀x:qz (λb=>b=w.heap.size+1) W1,x.w'.rangeAt w1.heap.size 0 [ι m,ι q,b]:=λx=>xy (x.h.blk M.o (by have:=qn I.o;omega))
 have ag: ∀x:qz (λb=>b=w.heap.size+1) W1,x.w'.cell? ⟨w1.heap.size,2,ϋ⟩=ϊ (μ b):=λx=>x.cell (qn M.o) (by have:=qn I.o;omega) (qm M.o 2 rfl)
 clear I;refine QN (λb=>b=w.heap.size+1) W1 4 5 [3,4] ?_;refine jh rfl rfl (qi σ) 151 (.tmp 7) rfl w1.heap.size 0 rfl [ι m,ι q,b] _ (λw' af=>by obtain⟨x,rfl⟩:=af;exact ab x) underlying151 rfl ξ ?_;intro K d;go_simp;refine d _ ?_;clear d K
 refine Qs2 ?_
 refine jR rfl rfl ?_;intro K d;refine jr 151 (.tmp 4) (.tmp 18) rfl (w.heap.size+1) 151 _ #[ι m,ι q,b] rfl rfl (qr O.o 1) ξ rfl (all_oneCell_toArray X9) ?_;refine⟨qi (((jt.refl (λb=>b=w.heap.size+1) W1).drewN 1).row (g:=w.heap.size+1) rfl _), ?_⟩;go_simp;refine d _ _ ?_;clear d K
 (refine Qe ?_;intro K d)
 refine d _ _ ?_;clear d K;refine qA ?_;go_wp2;refine bodyPost_ret (v:= .tuple #[θ #[ι m,ι q,b],b]) (yo results176 _ _ (w.heap.size+1) 151 #[ι m,ι q,b] _ _ rfl rfl (jY (qr O.o 1) _) underlying151 rfl ξ) rfl ?_;exact⟨rfl,(EC _ _ _).to_more (ac.o.dr 1) (λk e=>by rw[e];exact K5 _)⟩
end Go.Proofs.YtlmllmonabafjaaGreatDoor
