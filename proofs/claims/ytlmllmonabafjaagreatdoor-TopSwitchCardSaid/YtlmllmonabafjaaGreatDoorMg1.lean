/- x -/
import Derived.Test.YtlmllmonabafjaaGreatDoorMg0
import Derived.Handy
import Derived.Test.YtlmllmonabafjaaGreatDoorRows
import Derived.Maps.AppendAt
import Derived.Lib.LazyBuf
import Derived.ProofKit
import Derived.OpenShut
import Derived.Lib.SmallJoins
import Derived.Deep.Slices
import Derived.Deep.Fields
import Derived.IntWalk
import Derived.Deep.Cut
import Derived.Deep.CutRange
import Derived.Deep.CutBlock
import Derived.Laws.CopyRow
import Derived.Laws.Rows
import Derived.Laws.Tables
import Derived.Laws.MakeOwn
import Derived.Deep.MidRow
import Derived.Lib.SliceRun
namespace Go.Proofs.YtlmllmonabafjaaGreatDoor
open Go.Value renaming bool->μ,slice->δ,pointer->π,agg->θ
open Go.IntKind renaming i64->ι,u8->υ,u16->φ,u32->ω,i32->χ,u64->ψ
set_option linter.all false
open Go.RowKit
set_option maxRecDepth 100000
open Option renaming some->ϊ,none->ϋ
open Bool renaming true->ό,false->ύ
open _root_.Go.Proofs.Tryz
set_option maxHeartbeats 8000000
variable {w w':World} {l L:List Int} {C D S:Nat->Prop} {v:Value} {Q:Exit->Act->World->Prop} {α β:Type} {P:Prop} {R n W base b g cap room B:Nat} {e:Int} {a:Act} {xs c z cs:List Value} {ops:Array Oper} {K:Act->World->Prop} {k:IntKind} {rest:List Oper} {T css:List (List Value)} {G d:Option Addr} {I:Func}
def τ (h:P:=by omega):P:=h
def ξ (h:P:=by kernel_rfl):P:=h
def ζ (h:P:=by decide):P:=h
def η (h:P:=by simp):P:=h
def κ {p:Prop} (h:p):RowKit.Hid p:=h
def ν {α : Sort _} (a : α) : ∃ x, a = x := ⟨_, rfl⟩
def ρ (h : qh w w' := by repeat (first | exact qh.refl _ | assumption | refine qh.dr ?_ _ | refine qh.al ?_ _ | refine qh.st ?_ (by simp) _)) : qh w w' := h
def σ {S : Nat → Prop} (h : qk S w w' := by repeat (first | exact qk.refl _ _ | assumption | refine qk.drewN ?_ _ | refine qk.set ?_ (by first | rfl | exact Or.inl rfl | exact Or.inr rfl) _)) : qk S w w' := h
def _root_.Go.RowKit.Hid.o {p : Prop} (h : RowKit.Hid p) : p := h
section
variable {w:World} {b t:Nat} {c:List Value} {A B C D E F G H I J K L M N O P Q R S U V:Value}
def β0 (h:w.heap[b]?=some (.cells (A::c).toArray t (0,0))):w.cell? ⟨b,0,none⟩=some A:=qi h 0 η
def β1 (h:w.heap[b]?=some (.cells (A::B::c).toArray t (0,0))):w.cell? ⟨b,1,none⟩=some B:=qi h 1 η
def β2 (h:w.heap[b]?=some (.cells (A::B::C::c).toArray t (0,0))):w.cell? ⟨b,2,none⟩=some C:=qi h 2 η
def β3 (h:w.heap[b]?=some (.cells (A::B::C::D::c).toArray t (0,0))):w.cell? ⟨b,3,none⟩=some D:=qi h 3 η
def β4 (h:w.heap[b]?=some (.cells (A::B::C::D::E::c).toArray t (0,0))):w.cell? ⟨b,4,none⟩=some E:=qi h 4 η
def β5 (h:w.heap[b]?=some (.cells (A::B::C::D::E::F::c).toArray t (0,0))):w.cell? ⟨b,5,none⟩=some F:=qi h 5 η
def β6 (h:w.heap[b]?=some (.cells (A::B::C::D::E::F::G::c).toArray t (0,0))):w.cell? ⟨b,6,none⟩=some G:=qi h 6 η
def β7 (h:w.heap[b]?=some (.cells (A::B::C::D::E::F::G::H::c).toArray t (0,0))):w.cell? ⟨b,7,none⟩=some H:=qi h 7 η
def β8 (h:w.heap[b]?=some (.cells (A::B::C::D::E::F::G::H::I::c).toArray t (0,0))):w.cell? ⟨b,8,none⟩=some I:=qi h 8 η
def β9 (h:w.heap[b]?=some (.cells (A::B::C::D::E::F::G::H::I::J::c).toArray t (0,0))):w.cell? ⟨b,9,none⟩=some J:=qi h 9 η
def β10 (h:w.heap[b]?=some (.cells (A::B::C::D::E::F::G::H::I::J::K::c).toArray t (0,0))):w.cell? ⟨b,10,none⟩=some K:=qi h 10 η
def β11 (h:w.heap[b]?=some (.cells (A::B::C::D::E::F::G::H::I::J::K::L::c).toArray t (0,0))):w.cell? ⟨b,11,none⟩=some L:=qi h 11 η
def β12 (h:w.heap[b]?=some (.cells (A::B::C::D::E::F::G::H::I::J::K::L::M::c).toArray t (0,0))):w.cell? ⟨b,12,none⟩=some M:=qi h 12 η
def β13 (h:w.heap[b]?=some (.cells (A::B::C::D::E::F::G::H::I::J::K::L::M::N::c).toArray t (0,0))):w.cell? ⟨b,13,none⟩=some N:=qi h 13 η
def β14 (h:w.heap[b]?=some (.cells (A::B::C::D::E::F::G::H::I::J::K::L::M::N::O::c).toArray t (0,0))):w.cell? ⟨b,14,none⟩=some O:=qi h 14 η
def β15 (h:w.heap[b]?=some (.cells (A::B::C::D::E::F::G::H::I::J::K::L::M::N::O::P::c).toArray t (0,0))):w.cell? ⟨b,15,none⟩=some P:=qi h 15 η
def β16 (h:w.heap[b]?=some (.cells (A::B::C::D::E::F::G::H::I::J::K::L::M::N::O::P::Q::c).toArray t (0,0))):w.cell? ⟨b,16,none⟩=some Q:=qi h 16 η
def β17 (h:w.heap[b]?=some (.cells (A::B::C::D::E::F::G::H::I::J::K::L::M::N::O::P::Q::R::c).toArray t (0,0))):w.cell? ⟨b,17,none⟩=some R:=qi h 17 η
def β18 (h:w.heap[b]?=some (.cells (A::B::C::D::E::F::G::H::I::J::K::L::M::N::O::P::Q::R::S::c).toArray t (0,0))):w.cell? ⟨b,18,none⟩=some S:=qi h 18 η
def β19 (h:w.heap[b]?=some (.cells (A::B::C::D::E::F::G::H::I::J::K::L::M::N::O::P::Q::R::S::U::c).toArray t (0,0))):w.cell? ⟨b,19,none⟩=some U:=qi h 19 η
def β20 (h:w.heap[b]?=some (.cells (A::B::C::D::E::F::G::H::I::J::K::L::M::N::O::P::Q::R::S::U::V::c).toArray t (0,0))):w.cell? ⟨b,20,none⟩=some V:=qi h 20 η
end
instance:CoeFun IntKind (λ_=>Int->Value):=⟨.int⟩
instance:Coe Bool Value:=⟨.bool⟩
instance:Coe Unit Value:=⟨λ_=>.slice none 0 0⟩
inductive Mm | o
def γ (b:Nat):Mm:=.o
instance (b:Nat):CoeDep Mm (γ b) Value:=⟨.pointer (some ⟨b,0,none⟩)⟩
def Γa:Mm:=.o
instance:CoeDep Mm Γa (List Value):=⟨[ι 0,ι 0,μ false,μ false,υ 0,φ 0,ω 0,ω 0,δ none 0 0,μ false,φ 0,δ none 0 0,δ none 0 0]⟩
instance:CoeDep Mm Γa (Array Value):=⟨(Γa:List Value).toArray⟩
instance:CoeDep Mm Γa Value:=⟨θ Γa⟩
def Γs:Mm:=.o
instance:CoeDep Mm Γs (List Value):=⟨[ι 0,δ none 0 0]⟩
instance:CoeDep Mm Γs (Array Value):=⟨(Γs:List Value).toArray⟩
instance:CoeDep Mm Γs Value:=⟨θ Γs⟩
def Γb:Mm:=.o
instance:CoeDep Mm Γb (List Value):=⟨[ι 0,ι 0,μ false,μ false,υ 0,φ 0,ω 0,ω 0,δ none 0 0,μ false,φ 0,δ none 0 0,δ none 0 0,μ false]⟩
instance:CoeDep Mm Γb (Array Value):=⟨(Γb:List Value).toArray⟩
instance:CoeDep Mm Γb Value:=⟨θ Γb⟩
def Γc:Mm:=.o
instance:CoeDep Mm Γc (List Value):=⟨[μ false,υ 0,φ 0,ω 0,ω 0,δ none 0 0,μ false,φ 0,δ none 0 0,δ none 0 0]⟩
instance:CoeDep Mm Γc (Array Value):=⟨(Γc:List Value).toArray⟩
instance:CoeDep Mm Γc Value:=⟨θ Γc⟩
def Γd:Mm:=.o
instance:CoeDep Mm Γd (List Value):=⟨[μ false,ω 0,ω 0,ω 0,ω 0,ω 0,ω 0,δ none 0 0]⟩
instance:CoeDep Mm Γd (Array Value):=⟨(Γd:List Value).toArray⟩
instance:CoeDep Mm Γd Value:=⟨θ Γd⟩
def Γe:Mm:=.o
instance:CoeDep Mm Γe (List Value):=⟨[ω 0,υ 0,χ 0,ω 0,ω 0,ω 0,ω 0]⟩
instance:CoeDep Mm Γe (Array Value):=⟨(Γe:List Value).toArray⟩
instance:CoeDep Mm Γe Value:=⟨θ Γe⟩
def Γf:Mm:=.o
instance:CoeDep Mm Γf (List Value):=⟨[ι 0,μ false,ω 0,ω 0,ω 0,ω 0,ω 0,ω 0,δ none 0 0,ι 0,ω 0,ω 0,δ none 0 0,δ none 0 0,υ 0,υ 0,δ none 0 0]⟩
instance:CoeDep Mm Γf (Array Value):=⟨(Γf:List Value).toArray⟩
instance:CoeDep Mm Γf Value:=⟨θ Γf⟩
def Γg:Mm:=.o
instance:CoeDep Mm Γg (List Value):=⟨[ι 0,ω 0,ω 0,δ none 0 0,δ none 0 0]⟩
instance:CoeDep Mm Γg (Array Value):=⟨(Γg:List Value).toArray⟩
instance:CoeDep Mm Γg Value:=⟨θ Γg⟩
def Qo:Nat->Nat->List Nat->List (Nat×Bool)
 | _,0,_=>[]
 | i,k+1,L=>(i,L.elem i)::Qo (i+1) k L
def Qn {P:Program} {id:Nat} {l:List Oper} (w0:World) (T k:Nat) (L:List Nat) {n:List (Nat×Bool)} (h:yy P l T (λw'=> ∃x:qu w0,w'=x.w') (Q .normal) n a (w.drewN 1)) (e:Qo 0 k L=n:=by simp[Qo];exact rfl) (hm:P.follows .mixedOrders=true:=by kernel_rfl) (hB:(Region.noSelect l.toArray&&XH .any l.toArray T n (Array.replicate l.length false)&&decide (n.length=l.length)&&n.all λx=>decide (x.1<l.length))=true:=by kernel_rfl):(Code.region id l.toArray true).wp P Q a w:=zr w0 T n hm hB h
def QN {P:Program} {id:Nat} {l:List Oper} (S:Nat->Prop) (w0:World) (T k:Nat) (L:List Nat) {n:List (Nat×Bool)} (h:yy P l T (λw'=> ∃x:qC S w0,w'=x.w') (Q .normal) n a (w.drewN 1)) (e:Qo 0 k L=n:=by simp[Qo];exact rfl) (hm:P.follows .mixedOrders=true:=by kernel_rfl) (hB:(Region.noSelect l.toArray&&XH .any l.toArray T n (Array.replicate l.length false)&&decide (n.length=l.length)&&n.all λx=>decide (x.1<l.length))=true:=by kernel_rfl):(Code.region id l.toArray true).wp P Q a w:=zO S w0 T n hm hB h
def Ql {Q:Prop} (k:Q) (h:(Unit->Q)->P:=by intro k;refine jY rfl rfl ?_;intro K hK;unfold jt;go_simp;revert K hK;exact k ()):P:=h (λ_=>k)
def Qe {Q:Prop} (k:Q) (h:(Unit->Q)->P:=by intro k;refine yk rfl rfl (by decide) ?_;intro K hK;unfold jt;go_simp;revert K hK;exact k ()):P:=h (λ_=>k)
def Qq1 {Q:Prop} (k:Q) (h:(Unit->Q)->P:=by intro k;(refine qz rfl rfl (qo ρ) ?_;intro K hK;go_big_quiet_op;go_big_quiet_on);exact k ()):P:=h (λ_=>k)
def Qq2 {Q:Prop} (k:Q) (h:(Unit->Q)->P:=by intro k;(iterate 2 (refine qz rfl rfl (qo ρ) ?_;intro K hK;go_big_quiet_op;go_big_quiet_on));exact k ()):P:=h (λ_=>k)
def Qq3 {Q:Prop} (k:Q) (h:(Unit->Q)->P:=by intro k;(iterate 3 (refine qz rfl rfl (qo ρ) ?_;intro K hK;go_big_quiet_op;go_big_quiet_on));exact k ()):P:=h (λ_=>k)
def Qq4 {Q:Prop} (k:Q) (h:(Unit->Q)->P:=by intro k;(iterate 4 (refine qz rfl rfl (qo ρ) ?_;intro K hK;go_big_quiet_op;go_big_quiet_on));exact k ()):P:=h (λ_=>k)
def Qq5 {Q:Prop} (k:Q) (h:(Unit->Q)->P:=by intro k;(iterate 5 (refine qz rfl rfl (qo ρ) ?_;intro K hK;go_big_quiet_op;go_big_quiet_on));exact k ()):P:=h (λ_=>k)
def Qq6 {Q:Prop} (k:Q) (h:(Unit->Q)->P:=by intro k;(iterate 6 (refine qz rfl rfl (qo ρ) ?_;intro K hK;go_big_quiet_op;go_big_quiet_on));exact k ()):P:=h (λ_=>k)
def Qq7 {Q:Prop} (k:Q) (h:(Unit->Q)->P:=by intro k;(iterate 7 (refine qz rfl rfl (qo ρ) ?_;intro K hK;go_big_quiet_op;go_big_quiet_on));exact k ()):P:=h (λ_=>k)
def Qq8 {Q:Prop} (k:Q) (h:(Unit->Q)->P:=by intro k;(iterate 8 (refine qz rfl rfl (qo ρ) ?_;intro K hK;go_big_quiet_op;go_big_quiet_on));exact k ()):P:=h (λ_=>k)
def Qq9 {Q:Prop} (k:Q) (h:(Unit->Q)->P:=by intro k;(iterate 9 (refine qz rfl rfl (qo ρ) ?_;intro K hK;go_big_quiet_op;go_big_quiet_on));exact k ()):P:=h (λ_=>k)
def Sd {Q:Prop} (k:Q) (h:(Unit->Q)->P:=by intro k;(iterate 10 (refine qz rfl rfl (qo ρ) ?_;intro K hK;go_big_quiet_op;go_big_quiet_on));exact k ()):P:=h (λ_=>k)
def Hf {Q:Prop} (k:Q) (h:(Unit->Q)->P:=by intro k;(iterate 12 (refine qz rfl rfl (qo ρ) ?_;intro K hK;go_big_quiet_op;go_big_quiet_on));exact k ()):P:=h (λ_=>k)
def Sc {Q:Prop} (k:Q) (h:(Unit->Q)->P:=by intro k;(iterate 13 (refine qz rfl rfl (qo ρ) ?_;intro K hK;go_big_quiet_op;go_big_quiet_on));exact k ()):P:=h (λ_=>k)
def Mf {Q:Prop} (k:Q) (h:(Unit->Q)->P:=by intro k;(iterate 19 (refine qz rfl rfl (qo ρ) ?_;intro K hK;go_big_quiet_op;go_big_quiet_on));exact k ()):P:=h (λ_=>k)
def Sa {Q:Prop} (k:Q) (h:(Unit->Q)->P:=by intro k;(iterate 20 (refine qz rfl rfl (qo ρ) ?_;intro K hK;go_big_quiet_op;go_big_quiet_on));exact k ()):P:=h (λ_=>k)
def NX {Q:Prop} (k:Q) (h:(Unit->Q)->P:=by intro k;(iterate 21 (refine qz rfl rfl (qo ρ) ?_;intro K hK;go_big_quiet_op;go_big_quiet_on));exact k ()):P:=h (λ_=>k)
def Qs1 {Q:Prop} (k:Q) (h:(Unit->Q)->P:=by intro k;(refine qz rfl rfl (qn σ) ?_;intro K hK;go_big_quiet_op;go_big_quiet_on);exact k ()):P:=h (λ_=>k)
def Qs2 {Q:Prop} (k:Q) (h:(Unit->Q)->P:=by intro k;(iterate 2 (refine qz rfl rfl (qn σ) ?_;intro K hK;go_big_quiet_op;go_big_quiet_on));exact k ()):P:=h (λ_=>k)
def Qs3 {Q:Prop} (k:Q) (h:(Unit->Q)->P:=by intro k;(iterate 3 (refine qz rfl rfl (qn σ) ?_;intro K hK;go_big_quiet_op;go_big_quiet_on));exact k ()):P:=h (λ_=>k)
def Qs4 {Q:Prop} (k:Q) (h:(Unit->Q)->P:=by intro k;(iterate 4 (refine qz rfl rfl (qn σ) ?_;intro K hK;go_big_quiet_op;go_big_quiet_on));exact k ()):P:=h (λ_=>k)
def Qs5 {Q:Prop} (k:Q) (h:(Unit->Q)->P:=by intro k;(iterate 5 (refine qz rfl rfl (qn σ) ?_;intro K hK;go_big_quiet_op;go_big_quiet_on));exact k ()):P:=h (λ_=>k)
def Qs6 {Q:Prop} (k:Q) (h:(Unit->Q)->P:=by intro k;(iterate 6 (refine qz rfl rfl (qn σ) ?_;intro K hK;go_big_quiet_op;go_big_quiet_on));exact k ()):P:=h (λ_=>k)
def Qs7 {Q:Prop} (k:Q) (h:(Unit->Q)->P:=by intro k;(iterate 7 (refine qz rfl rfl (qn σ) ?_;intro K hK;go_big_quiet_op;go_big_quiet_on));exact k ()):P:=h (λ_=>k)
def Qs8 {Q:Prop} (k:Q) (h:(Unit->Q)->P:=by intro k;(iterate 8 (refine qz rfl rfl (qn σ) ?_;intro K hK;go_big_quiet_op;go_big_quiet_on));exact k ()):P:=h (λ_=>k)
def Qs9 {Q:Prop} (k:Q) (h:(Unit->Q)->P:=by intro k;(iterate 9 (refine qz rfl rfl (qn σ) ?_;intro K hK;go_big_quiet_op;go_big_quiet_on));exact k ()):P:=h (λ_=>k)
def He {Q:Prop} (k:Q) (h:(Unit->Q)->P:=by intro k;(iterate 10 (refine qz rfl rfl (qn σ) ?_;intro K hK;go_big_quiet_op;go_big_quiet_on));exact k ()):P:=h (λ_=>k)
def NW {Q:Prop} (k:Q) (h:(Unit->Q)->P:=by intro k;(iterate 12 (refine qz rfl rfl (qn σ) ?_;intro K hK;go_big_quiet_op;go_big_quiet_on));exact k ()):P:=h (λ_=>k)
def R9 {Q:Prop} (k:Q) (h:(Unit->Q)->P:=by intro k;(iterate 13 (refine qz rfl rfl (qn σ) ?_;intro K hK;go_big_quiet_op;go_big_quiet_on));exact k ()):P:=h (λ_=>k)
def Hc {Q:Prop} (k:Q) (h:(Unit->Q)->P:=by intro k;(iterate 14 (refine qz rfl rfl (qn σ) ?_;intro K hK;go_big_quiet_op;go_big_quiet_on));exact k ()):P:=h (λ_=>k)
def R7 {Q:Prop} (k:Q) (h:(Unit->Q)->P:=by intro k;(iterate 16 (refine qz rfl rfl (qn σ) ?_;intro K hK;go_big_quiet_op;go_big_quiet_on));exact k ()):P:=h (λ_=>k)
def R6 {Q:Prop} (k:Q) (h:(Unit->Q)->P:=by intro k;(iterate 17 (refine qz rfl rfl (qn σ) ?_;intro K hK;go_big_quiet_op;go_big_quiet_on));exact k ()):P:=h (λ_=>k)
def RZ {Q:Prop} (k:Q) (h:(Unit->Q)->P:=by intro k;(iterate 19 (refine qz rfl rfl (qn σ) ?_;intro K hK;go_big_quiet_op;go_big_quiet_on));exact k ()):P:=h (λ_=>k)
def Ν2:Mm:=.o
instance:CoeDep Mm Ν2 Nat:=⟨2⟩
def Ν13:Mm:=.o
instance:CoeDep Mm Ν13 Nat:=⟨13⟩
def Ν14:Mm:=.o
instance:CoeDep Mm Ν14 Nat:=⟨14⟩
def Ν53:Mm:=.o
instance:CoeDep Mm Ν53 Nat:=⟨53⟩
def Ν56:Mm:=.o
instance:CoeDep Mm Ν56 Nat:=⟨56⟩
def Ν253:Mm:=.o
instance:CoeDep Mm Ν253 Nat:=⟨253⟩
def Ν255:Mm:=.o
instance:CoeDep Mm Ν255 Nat:=⟨255⟩
def Ν325:Mm:=.o
instance:CoeDep Mm Ν325 Nat:=⟨325⟩
def Ν327:Mm:=.o
instance:CoeDep Mm Ν327 Nat:=⟨327⟩
def Ν328:Mm:=.o
instance:CoeDep Mm Ν328 Nat:=⟨328⟩
def Ν330:Mm:=.o
instance:CoeDep Mm Ν330 Nat:=⟨330⟩
def Ν332:Mm:=.o
instance:CoeDep Mm Ν332 Nat:=⟨332⟩
def ώ:=@if_neg
def Ϗ:=@List.length_append
def ϐ:=@Or.inl
def ϑ:=@List.getD_eq_getElem?_getD
def ϒ:=@if_pos
def ϓ:=@Or.inr
def ϔ:=@List.mem_append_right
def ϕ:=@Nat.le_refl
def ϖ:=@List.getElem?_eq_getElem
def ϗ:=@Nat.lt_of_lt_of_le
def Ϙ:=@List.length_cons
def ϙ:=@Nat.le_trans
def Ϛ:=@of_decide_eq_true
def ϛ:=@List.length_take
def Ϟ:=@Option.isSome_iff_exists
def ϟ:=@List.getElem?_eq_some_iff
def Ϡ:=@List.length_drop
def ϡ:=@List.map_cons
def Ϣ:=@List.getElem_mem
def ϣ:=@List.mem_cons_self
def Ϥ:=@List.eq_nil_of_length_eq_zero
def ϥ:=@List.mem_append
def Ϧ:=@List.mem_cons_of_mem
def ϧ:=@absurd
def Ϩ:=@decide_eq_true
def ϩ:=@Option.getD_some
def Ϫ:=@List.append_assoc
def ϫ:=@List.mem_cons
def Ϭ:=@Bool.false_eq_true
def ϭ:=@List.take_length
def Ϯ:=@decide_eq_false
def ϯ:=@List.getElem?_append_right
def ϰ:=@congrArg
def ϱ:=@List.length_nil
def ϵ:=@List.take_succ_eq_append_getElem
def Ϻ:=@Nat.zero_le
def ϻ:=@List.getElem?_append_left
def Γ:=@List.mem_singleton
def Δ:=@List.foldl_append
def Θ:=@Int.eq_ofNat_of_zero_le
def Ξ:=@List.map_append
def Φ:=@Bool.and_eq_true
def Ψ:=@if_true
def Ω:=@List.append_nil
def ε:=@List.mem_iff_getElem
def ο:=@List.mem_append_left
def A0:=@Nat.mul_le_mul_right
def A4:=@List.length_eq_zero_iff
def A5:=@List.take_append_drop
def A6:=@List.getElem?_toArray
def A7:=@Int.toNat_natCast
def A8:=@List.getElem?_take
def A9:=@List.take_add_one
def B3:=@List.flatten_cons
def B4:=@List.length_singleton
def B6:=@List.foldl_cons
def B9:=@of_decide_eq_false
def C0:=@List.length_pos_iff
def C1:=@List.mem_map
def C2:=@decide_eq_true_eq
def C3:=@List.length_map
def C4:=@if_false
def C6:=@Ne.symm
def C7:=@Prod.mk.injEq
def C8:=@List.map_nil
def C9:=@Nat.add_mul
def D0:=@Option.map_some
def D1:=@List.perm_iff_count
def D2:=@List.length_filter_le
def D3:=@Array.getElem?_setIfInBounds_ne
def D4:=@List.getElem?_drop
def D5:=@Nat.pow_le_pow_right
def D6:=@Int.tmod_eq_emod_of_nonneg
def E0:=@List.nodup_cons
def E8:=@Bool.true_and
def E9:=@Nat.zero_add
def F1:=@List.count_append
def F2:=@Bool.eq_iff_iff
def F3:=@List.length_tail
def G0:=@Nat.le_add_right
def G1:=@Int.emod_eq_of_lt
def G2:=@List.mem_filter
def G3:=@List.drop_eq_getElem_cons
def G4:=@List.getElem?_eq_none
def G5:=@Array.getElem?_modify
def G6:=@Nat.mod_lt
def G7:=@Int.natCast_emod
def G8:=@List.eq_of_mem_replicate
def G9:=@List.drop_append_of_le_length
def I0:=@List.take_append_of_le_length
def I1:=@Bool.false_and
def I2:=@List.nodup_append
def I3:=@List.getElem?_map
def I4:=@List.size_toArray
def I5:=@List.nil_append
def I6:=@List.flatten_append
def I7:=@Nat.add_zero
def I8:=@List.drop_eq_nil_of_le
def I9:=@List.all_eq_true
def J0:=@List.filter_append
def J1:=@List.count_cons
def J2:=@List.getElem?_set_ne
def J3:=@List.length_filterMap_le
def J4:=@List.getElem?_take_of_lt
def J5:=@List.map_congr_left
def J6:=@Nat.lt_succ_self
def J7:=@Nat.le_mul_of_pos_right
def K0:=@List.getElem_map
def K2:=@List.map_toArray
def K3:=@List.count_nil
def K4:=@Nat.le_succ
def K5:=@List.take_of_length_le
def K6:=@Int.lt_of_lt_of_le
def K7:=@List.pairwise_cons
def K8:=@List.filterMap_append
def K9:=@List.ext_getElem?
def M0:=@List.any_eq_false
def M2:=@Nat.mul_le_mul
def M3:=@List.mem_range
def M4:=@List.mem_of_mem_take
def M5:=@Nat.zero_mul
def M6:=@List.filter_cons
def M7:=@List.getElem?_eq_none_iff
def M8:=@List.mem_map_of_mem
def M9:=@Array.length_toList
def N0:=@Nat.add_assoc
def N1:=@List.getElem_append_left
def N2:=@Option.some.inj
def N3:=@List.sum_eq_zero_iff_forall_eq_nat
def N4:=@Option.map_eq_some_iff
def N5:=@Option.some.injEq
def N6:=@List.length_eq_one_iff
def O0:=@List.Sublist.refl
def O1:=@List.not_mem_nil
def O2:=@Nat.mod_eq_of_lt
def O3:=@Nat.one_mul
def O4:=@List.mem_of_mem_tail
def O5:=@List.cons.injEq
def O6:=@Option.map_none
def P0:=@List.find?_some
def P1:=@Array.getElem?_setIfInBounds
def P2:=@Array.toList_modify
def P4:=@List.flatMap_append
def P5:=@Int.toNat_of_nonneg
def P6:=@List.mergeSort_perm
def P8:=@Nat.le_of_lt
def P9:=@And.intro
def Q1:=@Int.tdiv_eq_ediv_of_nonneg
def Q2:=@List.mem_filterMap
def Q3:=@List.nodup_nil
def Q4:=@Int.emod_lt_of_pos
def Q5:=@List.find?_eq_none
def Q6:=@List.take_zero
def Q7:=@Bool.and_false
def Q8:=@Classical.byContradiction
def R0:=@Array.getElem?_eq_getElem
def R4:=@List.length_erase_of_mem
def R5:=@Prod.ext
def R8:=@List.any_eq_true
def S0:=@Nat.add_sub_cancel_left
def S1:=@List.pairwise_mergeSort
def S2:=@List.getElem?_set_self
def S3:=@Nat.testBit_lt_two_pow
def S5:=@List.map_map
def T1:=@Int.le_of_eq
def T2:=@Nat.div_add_mod
def T3:=@List.range_succ
def T4:=@Int.emod_nonneg
def T5:=@Bool.or_eq_true
def T6:=@Nat.div_lt_iff_lt_mul
def T7:=@List.eraseIdx_sublist
def T8:=@Int.emod_add_mul_ediv
def T9:=@Int.le_refl
def U1:=@List.take_left
def U2:=@List.drop_drop
def V1:=@List.drop_left
def V4:=@List.mem_erase_of_ne
def V5:=@Int.emod_emod_of_dvd
def V6:=@List.tail_cons
def W0:=@List.mem_of_mem_drop
def W4:=@Nat.mul_one
def W5:=@List.take_take
def X0:=@Bool.or_eq_false_iff
def X1:=@Option.map_map
def X2:=@Array.toList_filter
def X3:=@Array.toList_append
def X4:=@List.filter_sublist
def X5:=@List.map_set
def X6:=@Nat.mul_comm
def X8:=@Nat.lt_or_ge
def X9:=@Nat.min_def
def Z0 {o:Obj}:qh w (w.alloc o):=qh.alloc _ _
def Z5 (h:P:=by simp[Value.oneCell']):P:=h
def Xaa (h:P:=by rintro(e | e)<;>omega):P:=h
def YC (a s:Int) (h:May a s) (w:World):
  Calls prog 285 #[ι a,ι s] w λe w'=>e= .returned (μ ό)/\w'=w:=by
 obtain⟨d,G,H,I⟩:=h
 go_enter func285,ntmps285
 go_wp2;go_ret;exact⟨rfl,rfl⟩
def Fd (a s:Int) (G:I64 a) (H:I64 s) (h: ¬May a s) (w:World):
  Calls prog 285 #[ι a,ι s] w λe w'=>e= .returned (μ ύ)/\w'=w:=by
 obtain⟨I,J⟩:=G;obtain⟨N,O⟩:=H;have d:=κ h;clear h
 go_enter func285,ntmps285
 go_wp2
 all_goals
  go_ret;have h:=d.o;unfold May at h;exact⟨jq (by first | rfl | (simp;omega)),rfl⟩
def Ko (s:Int) (d:0<=s) (G:s<=64) (w:World):
  Calls prog 286 #[ι s] w λe w'=>e= .returned (ψ (two s-1))/\w'=w:=by
 go_enter func286,ntmps286
 go_wp2;go_ret;exact⟨zn (Ik s d G),rfl⟩
def JC (n:Int) (a s:Int) (G:U64 n) (h:May a s) (w:World):
  Calls prog 254 #[ψ n,ι a,ι s] w λe w'=>e= .returned (ψ (fld n a s))/\ ∃k,w'=w.drewN k:=by
 have I:=YC a s h;have d:=IK n a s G h;obtain⟨J,N,O,U⟩:=h;obtain⟨Y,n2⟩:=G;have H:=κ d;clear d
 go_enter func254,ntmps254
 go_wp2_with (go_at_call 285;refine(I _).mono ?_;rintro e w' ⟨rfl,rfl⟩)
 go_quiet ((go_at_call 286;exact Calls.quiet_of_same (Ko s τ τ _)))
 go_wp2;go_ret;exact⟨zn H.o,_,rfl⟩
def Lr (n v:Int) (a s:Int) (G:U64 n) (J:U64 v) (h:May a s) (w:World):
  Calls prog 278 #[ψ n,ι a,ι s,ψ v] w λe w'=>e= .returned (ψ (lay n a s v))/\ ∃k,w'=w.drewN k:=by
 have I:=YC a s h;have d:=Fk n a s v G J h;obtain⟨N,O,U,Y⟩:=h;obtain⟨aa,n2⟩:=G;have H:=κ d;clear d
 go_enter func278,ntmps278
 go_wp2_with (first | (go_at_call 285;refine(I _).mono ?_;rintro e w' ⟨rfl,rfl⟩) | (go_at_call 286;refine(Ko _ τ τ _).mono ?_;rintro e w' ⟨rfl,rfl⟩))
 go_ret;exact⟨zn H.o,0,rfl⟩
def NF (n v:Int) (a s:Int) (G:I64 a) (I:I64 s) (h: ¬May a s) (w:World):
  Calls prog 278 #[ψ n,ι a,ι s,ψ v] w λe w'=>e= .returned (ψ (lay n a s v))/\ ∃k,w'=w.drewN k:=by
 have H:=Fd a s G I h;have d:=κ (show n=lay n a s v by unfold lay;rw[ώ h]);clear h
 go_enter func278,ntmps278
 go_wp2_with (go_at_call 285;refine(H _).mono ?_;rintro e w' ⟨rfl,rfl⟩)
 go_ret;exact⟨zn d.o,0,rfl⟩
def Lt (n v:Int) (a s:Int) (G:U64 n) (I:U64 v) (d:I64 a) (H:I64 s) (w:World):
  Calls prog 278 #[ψ n,ι a,ι s,ψ v] w λe w'=>e= .returned (ψ (lay n a s v))/\ ∃k,w'=w.drewN k:=by
 by_cases h:May a s
 ·exact Lr n v a s G I h w
 ·exact NF n v a s d H h w
def Ge (n s:Int) (G:U64 n) (H:I64 s) (w:World):
  Calls prog 327 #[ψ n,ι s] w λe w'=>e= .returned (ι (sgd n s))/\w'=w:=by
 obtain⟨I,n2⟩:=G;obtain⟨s1,s2⟩:=H;by_cases h1:1<=s
 ·by_cases h2:s<=64
  ·have d:=κ (Ee n s h1 h2)
   go_enter func327,ntmps327
   go_wp2;go_ret;exact⟨zn d.o,rfl⟩
  ·have d:=κ (show 0=sgd n s by unfold sgd;rw[ϒ τ])
   go_enter func327,ntmps327
   go_wp2;go_ret;exact⟨zn d.o,rfl⟩
 ·have d:=κ (show 0=sgd n s by unfold sgd;rw[ϒ τ])
  go_enter func327,ntmps327
  go_wp2;go_ret;exact⟨zn d.o,rfl⟩
def UE (l:List Int) (v:Value) (w:World) (ag:8<l.length) (ad:SlI .u8 w v l) (O:Byt l):
  Calls prog 167 #[v] w λe w'=>e= .returned (ψ (num l))/\w'=w:=by
 obtain⟨ao,cap,rfl,am,G,ah,_,_⟩:=ad;obtain⟨b,ae,rfl,_,_⟩:=G 0 τ;have ab:=κ G;have aa:=κ O;have I:=κ (EP l);clear G O
 go_enter func167,ntmps167
 go_wp2;obtain⟨d,Y⟩: ∃d,d=l.length-8:=⟨_,rfl⟩;have J:=κ (show (l.drop d).length=8 by simp;omega);have ak:d+8<=l.length:=by omega
 have aj:l.length<=d+8:=by omega
 rw[<-Y] at I ⊢;clear Y
 go_loop [4,14] (λn i=> ∃j:Nat,j<=8/\i= ι j/\n= ψ (num ((l.drop d).take j))) (λ_ i=>8-(intOf i).toNat)
 case atStart=>exact⟨0,τ,rfl,by simp[num]⟩
 case round=>
  obtain⟨j,al,rfl,rfl⟩:=hrel;by_cases hlt:j<8
  ·obtain⟨af,ap,N,_,U⟩:=ab.o (d+j) τ;simp only[N5,Addr.mk.injEq,and_true] at N;obtain⟨rfl,rfl⟩:=N;have an:d+j<l.length:=by omega
   have ai:w.cell? ⟨b,ae+d+j,ϋ⟩=ϊ (υ (l.getD (d+j) 0)):=by rw[N0];exact U
   clear U
   have H:=Yw (l.drop d) j (by rw[J.o];exact hlt) (λi=>by
    have:=aa.o (d+i)
    rwa [ϑ,D4,<-ϑ])
   rw[List.getElem_drop] at H;have ac:=κ H;clear H;go_wp2
   go_round
   case rel=>exact⟨j+1,τ,by go_num,by rw[<-ac.o]⟩
   case measure=>simp[intOf];omega
  ·go_wp2;go_ret;exact⟨zn (by rw[K5 (by rw[J.o];omega)];exact I.o),rfl⟩
def VV (l:List Int) (v:Value) (w:World) (O:l.length<=8) (N:SlI .u8 w v l) (d:Byt l):
  Calls prog 167 #[v] w λe w'=>e= .returned (ψ (num l))/\w'=w:=by
 obtain⟨ac,cap,rfl,ab,G,U,_,_⟩:=N;have I:=κ G;have H:=κ d;clear G d
 go_enter func167,ntmps167
 go_wp2
 go_loop [4,14] (λn i=> ∃j:Nat,j<=l.length/\i= ι j/\n= ψ (num (l.take j))) (λ_ i=>l.length-(intOf i).toNat)
 case atStart=>exact⟨0,τ,rfl,by simp[num]⟩
 case round=>
  obtain⟨j,aa,rfl,rfl⟩:=hrel;by_cases hlt:j<l.length
  ·obtain⟨b,ad,rfl,_,Y⟩:=I.o j hlt;have J:=κ (Yw l j hlt H.o);go_wp2
   go_round
   case rel=>exact⟨j+1,τ,by go_num,by rw[<-J.o]⟩
   case measure=>simp[intOf];omega
  ·go_wp2;go_ret;exact⟨zn (by rw[K5 τ]),rfl⟩
def gZ (l:List Int) (v:Value) (w:World) (G:SlI .u8 w v l) (d:Byt l):
  Calls prog 167 #[v] w λe w'=>e= .returned (ψ (num l))/\w'=w:=by
 by_cases h:8<l.length
 ·exact UE l v w h G d
 ·exact VV l v w τ G d
def II:(prog.info? 5).map (λi=>(i.zero,i.size,i.bytes))=ϊ (ϊ (υ 0),1,1):=by kernel_rfl
def Be (n:Int) (s:Nat) (O:U64 n) (ad:s<=8) (w:World):
  Calls prog 208 #[ψ n,ι s] w λe w'=> ∃v,e= .returned v/\SlI .u8 w' v (bys n s)/\qh w w':=by
 obtain⟨af,n2⟩:=O;obtain⟨ac,hi,Y,aa,ab⟩:=info_parts II
 go_enter func208,ntmps208
 go_wp2_with (at_make;refine wpList_make_full _ rfl _ _ 35 rfl w.heap.size 5 ac (υ 0) 1 underlying35 hi Y aa _ _ _ _ s rfl rfl τ τ ?c1 ?c2 ?c3 ?_)
 case c1=>rw[ab];omega
 case c2=>unfold maxLen;omega
 case c3=>omega
 intro w1 d H;have G:Below w.heap.size w w1:=(Below.refl _ _).grown H τ η;have I:w1.ownsRow w.heap.size 5 1 (δ (ϊ ⟨w.heap.size,0,ϋ⟩) s s) s ((kJ n s 0).map (Value.int .u8)):=by
  rw[WX];simpa [toList_madeCells_one] using d
 clear d H;go_wp2
 go_loopw [16] (λi wr=> ∃k:Nat,k<=s/\i= ι k/\wr.ownsRow w.heap.size 5 1 (δ (ϊ ⟨w.heap.size,0,ϋ⟩) s s) s ((kJ n s k).map (Value.int .u8))/\Below w.heap.size w wr) (λi _=>s-(intOf i).toNat)
 case atStart=>exact⟨0,τ,rfl,I,G⟩
 case round=>
  obtain⟨k,N,rfl,d,G⟩:=hrel;clear I;by_cases hlt:k<s
  ·have J:=d.cellAt (s-1-k) τ;have ae:=d.frozenAt (s-1-k);have U:=d.stored (s-1-k) (υ (by8 n k));rw[I3,ϖ (by rw[VQ];omega),D0] at J;go_wp2;go_roundw
   case rel=>exact⟨k+1,τ,by go_num,by rw[<-Av n s k hlt,X5];exact U.1,G.setCell (ϕ _) _⟩
   case measure=>simp[intOf];omega
  ·obtain rfl:k=s:=by omega
   clear hlt N;go_wp2;refine bodyPost_ret (v:= δ (ϊ ⟨w.heap.size,0,ϋ⟩) k k) (by simp[results,results208,go_sem]) rfl ?_;rw[WY] at d;have:=yp n k;exact⟨_,rfl,SlI.of_owns (by rw[this];exact d) (by rw[this];omega),G⟩
def Hr (n s:Int) (d:1<=s) (G:s<=64):sgd n s%two s=n%two s:=by
 unfold sgd;rw[ώ τ];split
 ·exact V5 _ (Int.dvd_refl _)
 ·rw[Int.sub_emod_right];exact V5 _ (Int.dvd_refl _)
def UP (n s:Int) (G:1<=s) (H:s<=64): -two (s-1)<=sgd n s/\sgd n s<two (s-1):=by
 have b:=Qr (s-1);have q:=XY (k:=s-1) τ;rw[show s-1+1=s from by omega] at q;have c:=T4 n (b:=two s) τ;have d:=Q4 n (b:=two s) τ;unfold sgd;rw[ώ τ];split<;>omega
def Ix (n a s v:Int) (d:U64 n):U64 (lay n a s v):=by
 unfold lay;split
 ·have:=Iy n.toNat a.toNat s.toNat v.toNat;unfold U64;omega
 ·exact d
def DX (n a s v:Int) (h:May a s):(lay n a s v).toNat=Bh n.toNat a.toNat s.toNat v.toNat:=by
 unfold lay;rw[ϒ h];simp
def EY {d M:Nat} (H:d<18446744073709551616) (G:M<18446744073709551616) (h: ∀i,i<64->d.testBit i=M.testBit i):d=M:=by
 apply Nat.eq_of_testBit_eq;intro i;by_cases hi:i<64
 ·exact h i hi
 ·rw[S3 (ϗ (m:=2 ^ 64) H (D5 τ τ)),S3 (ϗ (m:=2 ^ 64) G (D5 τ τ))]
def Ks (n:Int) (k:Nat):vg (bys n k)=n%2 ^ (8* k):=by
 induction k with
 | zero=>simp[bys,vg,Int.emod_one]
 | succ k ih=>
  rw[FF,show by8 n k::bys n k=[by8 n k]++bys n k from rfl,JU,ih,yp];unfold by8;rw[show (8* (k+1))=8* k+8 from by omega,Int.pow_add,show ((256:Int) ^ k)=2 ^ (8* k) from by rw[Int.pow_mul];rfl];have e:vg [n/2 ^ (8* k)%256]=n/2 ^ (8* k)%256:=by simp[vg]
  rw[e];have I:(0:Int)<2 ^ (8* k):=Int.pow_pos ζ;have d:=T8 n (2 ^ (8* k));have G:=T8 (n/2 ^ (8* k)) 256;have J:=T4 n (b:=2 ^ (8* k)) τ;have N:=Q4 n I;have O:=T4 (n/2 ^ (8* k)) (b:=256) τ;have U:=Q4 (n/2 ^ (8* k)) (b:=256) τ;generalize (2:Int) ^ (8* k)=P at *;generalize n%P=R at *;generalize ab:n/P=Q at *;generalize Q%256=r at *;generalize Q/256=q at *;have aa:r* P<=255* P:=Int.mul_le_mul_of_nonneg_right τ τ;have Y:0<=r* P:=Int.mul_nonneg τ τ;have H:n=(r* P+R)+(P* 256)* q:=by
   rw[<-d,<-G,Int.mul_add,Int.mul_comm P r,<-Int.mul_assoc];omega
  rw[show (2:Int) ^ 8=256 from by decide];rw[H,Int.add_mul_emod_self_left];exact(G1 τ τ).symm
def Byt.snoc {x:Int} (h:Byt (l++[x])):Byt l/\0<=x/\x<=255:=by
 constructor
 ·intro i;by_cases hi:i<l.length
  ·have:=h i
   rwa [ϑ,ϻ hi,<-ϑ] at this
  ·rw[ϑ,G4 τ];simp
 ·have:=h l.length;rw[ϑ,ϯ (ϕ _)] at this
  simpa using this
def ER (l:List Int): ∀m:List Int,l.length=m.length->Byt l->Byt m->vg l=vg m->l=m:=by
 refine uU (P:=λl=> ∀m:List Int,l.length=m.length->Byt l->Byt m->vg l=vg m->l=m) ?_ ?_ l
 ·intro m h _ _ _;exact(Ϥ (by simpa using h.symm)).symm
 ·intro l x U m d N H J;rcases List.eq_nil_or_concat m with rfl | ⟨m',y,rfl⟩
  ·simp at d
  ·rw[List.concat_eq_append] at *;rw[vC,vC] at J;obtain⟨O,Y⟩:=N.snoc;obtain⟨I,aa⟩:=H.snoc;have G:x=y:=by omega
   have:=U m' (by simpa using d) O I τ;rw[this,G]
def XG (n:Int) (k:Nat):Byt (bys n k):=by
 intro i;rw[ϑ];by_cases hi:i<(bys n k).length
 ·rw[ϖ hi,ϩ];simp only[bys,K0];exact Nn _ _
 ·rw[G4 τ];simp
def Vl (l:List Int) (h:Byt l):0<=vg l/\vg l<2 ^ (8* l.length):=by
 revert h
 refine uU (P:=λl=>Byt l->0<=vg l/\vg l<2 ^ (8* l.length)) ?_ ?_ l
 ·intro _;simp[vg]
 ·intro l x G h;obtain⟨d,H⟩:=h.snoc;have:=G d;rw[vC,Ϗ,B4,show 8* (l.length+1)=8* l.length+8 from by omega,Int.pow_add,show (2:Int) ^ 8=256 from by decide];omega
def wy (l:List Int) (h:Byt l) (H:l.length<=8):num l=vg l:=by
 have d:=Vl l h;have G:(2:Int) ^ (8* l.length)<=2 ^ 64:=by
  have:=D5 (n:=2) τ (show 8* l.length<=64 by omega)
  exact_mod_cast this
 rw[Zf];exact G1 d.1 (K6 d.2 G)
def IT (l:List Int) (h:Byt l) (G:l.length<=8):bys (num l) l.length=l:=by
 apply ER _ _ (yp _ _) (XG _ _) h;have d:=Vl l h;rw[Ks,wy l h G];exact G1 d.1 d.2
def qy (n s:Int):List Int:=if 0<=s/\s<=8 then bys n s.toNat else []
def QL (n s:Int) (h:0<=s/\s<=8):qy n s=bys n s.toNat:=by unfold qy;rw[ϒ h]
def Bf (n s:Int) (G:U64 n) (H:I64 s) (w:World):
  Calls prog 208 #[ψ n,ι s] w λe w'=> ∃v,e= .returned v/\SlI .u8 w' v (qy n s)/\qh w w':=by
 obtain⟨s1,s2⟩:=H;by_cases h:0<=s/\s<=8
 ·obtain⟨S,rfl⟩:=Θ h.1;rw[QL _ _ h,A7];exact Be n S G τ w
 ·have d:=κ (show qy n s=[] by unfold qy;rw[ώ h]);by_cases h1:0<=s
  ·have I:8<s:=by omega
   clear h
   go_enter func208,ntmps208
   go_wp2;go_ret;exact⟨_,rfl,by rw[d.o];exact SlI.nil _ _,qh.refl _⟩
  ·clear h
   go_enter func208,ntmps208
   go_wp2;go_ret;exact⟨_,rfl,by rw[d.o];exact SlI.nil _ _,qh.refl _⟩
def qR {P:Program} (w:World) {o:Oper} (J:o.guard=ϋ) (s x:Operand) (t:TypeId)
  (O:o.op= .call {callee:= .builtin .append,args:= #[s,x],argTypes:= #[t,t]})
  (base:Nat) (e:TypeId) (i:TypeInfo) (z:Value) (bytes:Nat) (Y:P.underlying t=ϊ (.slice e)) (hi:P.info? e=ϊ i) (ax:i.zero=ϊ z)
  (av:i.size=1) (al:i.bytes=bytes) (ay:z.cells.size=1)
  (v:Value) (k:IntKind) (l:List Int) (U:a.eval s=v) (H:w.ownsRow base e 1 v l.length (l.map (Value.int k)))
  (ae:Value) (d:List Int) (aa:a.eval x=ae) (ao:SlI k w ae d)
  (am:(l.length+d.length)* bytes<=140737488355328) (aA:1<=bytes) (ak:base<=w.heap.size)
  (h: ∀v' w',w'.ownsRow base e 1 v' (l++d).length ((l++d).map (Value.int k))->w.grownBy w' v.ownBlock->(v'.ownBlock=v.ownBlock∨v'.ownBlock=ϊ w.heap.size)->wpList P ops Q rest (a.put o.dst v') w'):wpList P ops Q (o::rest) a w:=by
 have aj:l.length+d.length<=maxLen:=by
  have:=J7 (l.length+d.length) (show 0<bytes by omega);unfold maxLen;omega
 obtain⟨az,cap,rfl,aB,ap,aC,aD,aq⟩:=ao;cases az with
 | none=>
  have G:cap=0:=aq rfl;subst G;have au:d=[]:=Ϥ τ;subst au;refine wpList_append_own_none J s x t O base e i 1 Y hi v l.length (l.map (Value.int k)) U H aa ?_;exact h v w (by simpa using H) ⟨rfl,rfl,rfl,ϕ _,λ_ _ _=>rfl⟩ (ϐ rfl)
 | some ad=>
  refine wpList_append_own_at w J s x t O base e i z 1 bytes Y hi ax av al ay ζ v l.length (l.map (Value.int k)) U H ad d.length cap (d.map (Value.int k)) aa η ?_ ?_ aj am ak ?_
  ·intro j u N;rw[I3] at N;obtain⟨y,ab,rfl⟩:=N4.1 N;obtain⟨ar,aE⟩:=ϟ.1 ab;obtain⟨b,ac,I,_,an⟩:=ap j ar;simp only[N5] at I;subst I;have af:(⟨b,ac,ϋ⟩:Addr).add j=⟨b,ac+j,ϋ⟩:=by
    unfold Addr.add;split
    ·rename_i G;subst G;rfl
    ·rfl
   rw[af,an,ϑ,ab];rfl
  ·intro u aw;obtain⟨y,_,rfl⟩:=C1.1 aw;rfl
  ·intro v' w' ag ah _ ai;exact h v' w' (by simpa using ag) ah ai
def Zw {e size:Nat} {u:Value} (h:w.ownsRow base e size v n xs) (g:w.grownBy w' u.ownBlock) (d: ∀b,v.ownBlock=ϊ b->u.ownBlock≠ϊ b):w'.ownsRow base e size v n xs:=by
 obtain⟨G,H⟩:=h;refine⟨G, ?_⟩;rcases H with h | ⟨b,cap,cur,e1,hb,hg,rest⟩
 ·exact ϐ h
 ·refine ϓ ⟨b,cap,cur,e1,hb, ?_,rest⟩;rw[g.block b (lt_of_block hg) (by rw[e1] at d;exact λe=>d b rfl e.symm)];exact hg
def Qv {e size:Nat} (h:w.ownsRow base e size v n xs) (d:v.ownBlock=ϊ b):b<w.heap.size:=by
 rcases h.2 with ⟨rfl,_⟩ | ⟨G,cap,cur,rfl,_,H,_⟩
 ·cases d
 ·obtain rfl:G=b:=by injection d
  exact lt_of_block H
def jJ {e size:Nat} (h:w.ownsRow base e size v n xs) (m:qh w w'):w'.ownsRow base e size v n xs:=by
 obtain⟨d,G⟩:=h;refine⟨d, ?_⟩;rcases G with h | ⟨b,cap,cur,e1,hb,hg,rest⟩
 ·exact ϐ h
 ·exact ϓ ⟨b,cap,cur,e1,hb,by rw[m.block b (lt_of_block hg)];exact hg,rest⟩
def SlI.take (h:SlI k w (δ G n cap) l) (m:Nat) (ac:m<=l.length):SlI k w (δ G m cap) (l.take m):=by
 obtain⟨ad,Y,e,aa,H,ab,I,J⟩:=h;cases e;have d:(l.take m).length=m:=by simp;omega
 refine⟨G,cap,by rw[d],by rw[d];omega,λi hi=> ?_,by rw[d];omega,I,J⟩;rw[d] at hi;obtain⟨b,U,e,N,O⟩:=H i τ;exact⟨b,U,e,N,by rw[O,ϑ,ϑ,A8,ϒ hi]⟩
def SlI.take3 (h:SlI k w (δ G n cap) l) (m:Nat) (ac:m<=l.length):SlI k w (δ G m m) (l.take m):=by
 obtain⟨ad,U,e,Y,H,aa,ab,I⟩:=h;cases e;have d:(l.take m).length=m:=by simp;omega
 refine⟨G,m,by rw[d],by rw[d];omega,λi hi=> ?_,by rw[d];omega,τ,λx=>by have:=I x;omega⟩;rw[d] at hi;obtain⟨b,O,e,J,N⟩:=H i τ;exact⟨b,O,e,J,by rw[N,ϑ,ϑ,A8,ϒ hi]⟩
def SlI.drop {d:Nat} (h:SlI k w (δ (ϊ ⟨b,d,ϋ⟩) n cap) l) (m:Nat) (ab:m<=l.length):SlI k w (δ (ϊ ⟨b,d+m,ϋ⟩) (n-m) (cap-m)) (l.drop m):=by
 obtain⟨ac,N,e,O,G,U,Y,aa⟩:=h;cases e;refine⟨_,cap-m,by rw[Ϡ],by rw[Ϡ];omega,λi hi=> ?_,by rw[Ϡ];omega,τ,λh=>by cases h⟩;rw[Ϡ] at hi;obtain⟨J,ad,e,H,I⟩:=G (m+i) τ;cases e;refine⟨b,d+m,rfl,H, ?_⟩;rw[N0,I,ϑ,ϑ,D4]
def SlI.from_ (h:SlI k w (δ d n cap) l) (m:Nat) (af:m<=l.length) (H:Option Addr) (G:H=if cap=m then d else d.map (·.add m)):SlI k w (δ H (n-m) (cap-m)) (l.drop m):=by
 obtain⟨ag,ab,e,ac,U,ad,ae,J⟩:=h;cases e;refine⟨H,cap-m,by rw[Ϡ],by rw[Ϡ];omega,λi hi=> ?_,by rw[Ϡ];omega,τ,λh=> ?_⟩
 ·rw[Ϡ] at hi;obtain⟨b,I,e,Y,aa⟩:=U (m+i) τ;rw[ώ τ,e] at G;have N:(⟨b,I,ϋ⟩:Addr).add m=⟨b,I+m,ϋ⟩:=by
   unfold Addr.add;split
   ·rename_i O;subst O;rfl
   ·rfl
  refine⟨b,I+m,by rw[G,D0,N],Y, ?_⟩;rw[N0,aa,ϑ,ϑ,D4]
 ·subst G;split at h
  ·have:=J h;omega
  ·cases d with
   | none=>have:=J rfl;omega
   | some a=>simp at h
def gc (v:Value) (l:List Int) (w:World) (I:SlI .u8 w v l) (al:l.length<=1000000):
  Calls prog 50 #[v] w λe w'=> ∃v',e= .returned v'/\w'.ownsRow w.heap.size 5 1 v' l.length (l.map (Value.int .u8))/\qh w w':=by
 obtain⟨ag,hi,ac,ae,af⟩:=info_parts (P:=prog) (e:=5) (z:= υ 0) (size:=1) (bytes:=1) ξ;have d:=κ I;obtain⟨ah,cap,rfl,ai,G,aj,ak,H⟩:=I;cases ah with
 | none=>
  have O:cap=0:=H rfl;subst O;obtain rfl:l=[]:=Ϥ τ;clear d G;have Y:=Go.run_eql_slice_nil (P:=prog) w 35 5 ϋ 0 0 underlying35
  go_enter func50,ntmps50
  go_wp2;go_ret;exact⟨_,rfl,⟨rfl,ϐ ⟨rfl,rfl⟩⟩,qh.refl _⟩
 | some ad=>
  have aa:=World.ownsRow_lit (e:=5) (size:=1) (base:=w.heap.size) w #[] 0 (ϕ _) (by unfold maxLen;omega) rfl;clear G H;have Y:=Go.run_eql_slice_nil (P:=prog) w 35 5 (ϊ ad) l.length cap underlying35
  go_enter func50,ntmps50
  go_wp2_with (at_builtin;refine xJ _ rfl (.tmp 5) (.tmp 6) 35 rfl w.heap.size 5 ag (υ 0) 1 underlying35 hi ac ae af rfl _ .u8 [] rfl aa _ l rfl (d.o.keep Z0) (by simp;omega) ζ (qh.alloc w _).size ?_;intro v' w2 ab U;have N:=κ ab;have J:=κ U)
  go_ret;exact⟨_,rfl,N.o,(qh.alloc w (.cells #[] 5)).grown J.o (qh.alloc w _).size (by intro q h;cases h;exact ϕ _)⟩
def xS {e size:Nat} (h:w.ownsRow base e size v n xs) (m:qk S w w') (H: ∀k,S k->k<base):w'.ownsRow base e size v n xs:=by
 obtain⟨d,G⟩:=h;refine⟨d, ?_⟩;rcases G with h | ⟨g,cap,cur,e1,hb,hg,rest⟩
 ·exact ϐ h
 ·exact ϓ ⟨g,cap,cur,e1,hb,m.blk hg (λx=>by have:=H g x;omega),rest⟩
def jc {e:Nat} (h:w.ownsRow base e 1 v n xs): ∃oa m cap,v= δ oa m cap/\m=n/\n<=cap:=by
 rcases h.2 with ⟨rfl,e⟩ | ⟨b,cap,cur,rfl,_,_,d,_⟩
 ·exact⟨ϋ,0,0,rfl,τ,τ⟩
 ·exact⟨_,_,cap,rfl,rfl,d⟩
def Ae {e size:Nat} {o:Obj} (g:w.grownBy w' v.ownBlock) (G:w.ownsRow base e size v n xs) (H:b<base) (h:w.heap[b]? =ϊ o):w'.heap[b]? =ϊ o:=by
 rw[g.block b (qq h)]
 ·exact h
 ·rcases G.2 with ⟨rfl,_⟩ | ⟨d,cap,cur,rfl,I,_⟩
  ·exact λx=>by cases x
  ·intro x;have:b=d:=by injection x
   omega
structure xm (w:World) (W:Nat) (v:Value) (l:List Int):Prop where
 blk:w.heap[W]? =ϊ (.cells #[v] 204 (0,0))
 row:w.ownsRow (W+1) 5 1 v l.length (l.map (Value.int .u8))
def WrS (W:Nat) (v:Value) (b:Nat):Prop:=b=W∨v.ownBlock=ϊ b
def FM (h:xm w W v l) (vb:Value) (H:List Int) (U:SlI .u8 w vb H) (aq:l.length+H.length<=10000000):
  Calls prog 96 #[γ W,vb] w λe w'=>e= .returned (.tuple #[])/\(∃v',xm w' W v' (l++H)/\(v'.ownBlock=v.ownBlock∨v'.ownBlock=ϊ w.heap.size))/\qk (WrS W v) w w':=by
 obtain⟨al,hi,ai,aj,ak⟩:=info_parts (P:=prog) (e:=5) (z:= υ 0) (size:=1) (bytes:=1) ξ;have am:=β0 h.blk;have ao:=ql h.blk 0;have ae:=qq h.blk;have I:=κ h;have ad:=κ U;clear h U
 go_enter func96,ntmps96
 go_wp2_with (at_builtin;refine qR _ rfl (.tmp 8) (.tmp 9) 35 rfl (W+1) 5 al (υ 0) 1 underlying35 hi ai aj ak rfl v .u8 l rfl I.o.row _ H rfl ad.o τ ζ ae ?_;intro v' w2 N J O;have ab:=κ N;have d:=κ J;have aa:=κ O;have G:=Ae J I.o.row (J6 W) I.o.blk;have c2:=β0 G;have ap:=ql G 0;have ac:=κ G;obtain⟨au,ar,an,rfl,ag⟩:=jc N;clear N J O G ag)
 refine bodyPost_end (v:= .tuple #[]) ?rr rfl ?_
 case rr=>simp[results,results96,go_sem]
 have Y:qk (WrS W v) w w2:=⟨d.o.os,d.o.tape,d.o.output,d.o.size,λk af ah=>d.o.block k af (λe=>ah (ϓ e.symm))⟩;refine⟨rfl,⟨_,⟨qF (qt ac.o 0 _) rfl, ?_⟩,aa.o⟩,Y.set (ϐ rfl) _⟩;exact xS (S:=λb=>b=W) ab.o ((qk.refl (λb=>b=W) w2).set (p:=⟨W,0,ϋ⟩) rfl _) (by rintro k rfl;exact J6 _)
def xm.more (h:xm w W v l) (m:qh w w'):xm w' W v l:=⟨qj m h.blk,jJ h.row m⟩
def uQ (w w':World) (W:Nat) (v:Value) (l:List Int):Prop:=
 (∃v',xm w' W v' l/\(v'.ownBlock=v.ownBlock∨ ∃g,v'.ownBlock=ϊ g/\w.heap.size<=g))/\qk (WrS W v) w w'
def uQ.after {w1:World} (m:qh w w1) (h:uQ w1 w' W v l):uQ w w' W v l:=by
 obtain⟨⟨v',G,d⟩,a⟩:=h;refine⟨⟨v',G, ?_⟩,(qk.of_more m).trans a⟩;rcases d with d | ⟨g,d,h3⟩
 ·exact ϐ d
 ·exact ϓ ⟨g,d,ϙ m.size h3⟩
def wP (h:xm w W v l) (vb:Value) (d:List Int) (N:SlI .u8 w vb d) (J:l.length+d.length<=10000000):
  Calls prog 96 #[γ W,vb] w λe w'=>e= .returned (.tuple #[])/\uQ w w' W v (l++d):=
 (FM h vb d N J).mono λ_ _ ⟨I,⟨v',G,H⟩,a⟩=>⟨I,⟨v',G,H.imp id λe=>⟨_,e,ϕ _⟩⟩,a⟩
def wC (h:xm w W v l) (n s:Int) (H:0<=n/\n<=4294967295) (aa:1<=s/\s<=4) (Y:l.length<=1000000):
  Calls prog 155 #[γ W,ω n,ι s] w λe w'=>e= .returned (.tuple #[])/\uQ w w' W v (l++qy n s):=by
 have G:=κ h;have ab:(qy n s).length<=8:=by
  obtain⟨k,rfl⟩: ∃k:Nat,s=k:=⟨s.toNat,τ⟩;unfold qy;rw[ϒ τ,yp];omega
 have I:U64 n:=by unfold U64;omega
 have N:I64 s:=by unfold I64;omega
 obtain⟨ac,n2⟩:=H;clear h
 go_enter func155,ntmps155
 go_wp2_with first | (go_at_call 208;refine(Bf n s I N _).mono ?_;rintro e w1 ⟨U,rfl,J,d⟩) | (go_at_call 96;refine(wP (G.o.more d) U _ J τ).mono ?_;rintro e w2 ⟨rfl,O⟩)
 refine bodyPost_end (v:= .tuple #[]) ?rr rfl ?_
 case rr=>simp[results,results155,go_sem]
 exact⟨rfl,O.after d⟩
def wY (h:xm w W v l) (n:Int) (I:0<=n/\n<=255) (H:l.length<=1000000):
  Calls prog 93 #[γ W,υ n] w λe w'=>e= .returned (.tuple #[])/\uQ w w' W v (l++qy n 1):=by
 have G:=κ h;have J:0<=n/\n<=4294967295:=by omega
 have d:=κ J;obtain⟨O,n2⟩:=I;clear h
 go_enter func93,ntmps93
 go_wp2_with (go_at_call 155;refine(wC G.o n 1 d.o ζ H).mono ?_;rintro e w2 ⟨rfl,N⟩)
 refine bodyPost_end (v:= .tuple #[]) ?rr rfl ?_
 case rr=>simp[results,results93,go_sem]
 exact⟨rfl,N⟩
def ux (h:xm w W v l) (n:Int) (I:0<=n/\n<=65535) (H:l.length<=1000000):
  Calls prog 94 #[γ W,φ n] w λe w'=>e= .returned (.tuple #[])/\uQ w w' W v (l++qy n 2):=by
 have G:=κ h;have J:0<=n/\n<=4294967295:=by omega
 have d:=κ J;obtain⟨O,n2⟩:=I;clear h
 go_enter func94,ntmps94
 go_wp2_with (go_at_call 155;refine(wC G.o n 2 d.o ζ H).mono ?_;rintro e w2 ⟨rfl,N⟩)
 refine bodyPost_end (v:= .tuple #[]) ?rr rfl ?_
 case rr=>simp[results,results94,go_sem]
 exact⟨rfl,N⟩
def wk (h:xm w W v l) (n:Int) (I:0<=n/\n<=4294967295) (H:l.length<=1000000):
  Calls prog 95 #[γ W,ω n] w λe w'=>e= .returned (.tuple #[])/\uQ w w' W v (l++qy n 4):=by
 have G:=κ h;have J:0<=n/\n<=4294967295:=by omega
 have d:=κ J;obtain⟨O,n2⟩:=I;clear h
 go_enter func95,ntmps95
 go_wp2_with (go_at_call 155;refine(wC G.o n 4 d.o ζ H).mono ?_;rintro e w2 ⟨rfl,N⟩)
 refine bodyPost_end (v:= .tuple #[]) ?rr rfl ?_
 case rr=>simp[results,results95,go_sem]
 exact⟨rfl,N⟩
def gW (h:xm w W v l) (G:l.length<=1000000):
  Calls prog 97 #[γ W] w λe w'=> ∃v',e= .returned v'/\w'.ownsRow w.heap.size 5 1 v' l.length (l.map (Value.int .u8))/\qh w w':=by
 have J:=β0 h.blk;have d:=κ (SlI.of_owns h.row τ);clear h
 go_enter func97,ntmps97
 go_wp2_with (go_at_call 50;refine(gc v l w d.o G).mono ?_;rintro e w2 ⟨N,rfl,I,H⟩)
 go_ret;exact⟨_,rfl,I,H⟩
def jP {e size:Nat} (h:w.ownsRow base e size v n xs) (d:v.ownBlock=ϊ b):base<=b:=by
 rcases h.2 with ⟨rfl,_⟩ | ⟨G,cap,cur,rfl,H,_⟩
 ·cases d
 ·obtain rfl:G=b:=by injection d
  exact H
def uQ.to_more {d:World} {J:List Int} (I:uQ w w' W v l) (h:xm w W v J) (m:qh d w) (G:d.heap.size<=W):qh d w':=
 qk.to_more m I.2 (by
  rintro k (rfl | H)
  ·exact G
  ·have:=jP h.row H;omega)
def Xu {d:World} (a:qk (λb=>b=R) w w') (m:qh d w) (G:d.heap.size<=R):qh d w':=
 qk.to_more m a (by rintro k rfl;exact G)
def gL (w:World):xm (w.alloc (.cells #[δ ϋ 0 0] 204)) w.heap.size (δ ϋ 0 0) []:=⟨qp _ _,⟨rfl,ϐ ⟨rfl,rfl⟩⟩⟩
structure WrK (w0 w:World) (W:Nat) (v:Value) (l:List Int) (B:Nat) (o:Obj):Prop where
 wr:xm w W v l
 more:qh w0 w
 base:w0.heap.size<=W
 keep:w.heap[B]? =ϊ o
 ne: ¬B=W
 apart:v.ownBlock≠ϊ B
def WrK.new {d:World} (o:Obj) (h:xm w W v l) (m:qh d w) (b:d.heap.size<=W):WrK d (w.alloc o) W v l w.heap.size o:=
 ⟨h.more (qh.alloc w o),m.al o,b,qp w o,λe=>by have:=qq h.blk;omega,λe=>by have:=Qv h.row e;omega⟩
def WrK.wrote {G:World} {l':List Int} {o:Obj} (h:WrK G w W v l B o) (x:uQ w w' W v l'): ∃v',WrK G w' W v' l' B o:=by
 have I:=x.to_more h.wr h.more h.base;obtain⟨⟨v',H,d⟩,a⟩:=x;refine⟨v',H,I,h.base,a.blk h.keep ?_,h.ne, ?_⟩
 ·rintro(e | e)
  ·exact h.ne e
  ·exact h.apart e
 ·intro e;rcases d with d | ⟨g,d,h3⟩
  ·exact h.apart (by rw[<-d];exact e)
  ·rw[e] at d;obtain rfl:B=g:=by injection d
   have:=qq h.keep;omega
structure qw (w:World) (R:Nat) (left:List Int) (wrong:Int) (C:Nat->Prop:=λ_=>True):Prop where
 blk: ∃v,w.heap[R]? =ϊ (.cells #[v,.int .i64 wrong] 247 (0,0))/\SlI .u8 w v left/\(¬left=[]-> ∀g,v.ownBlock=ϊ g->C g)
 small:left.length<=1000000
 byt:Byt left
 shut: ¬wrong=0->left=[]
def qw.more (h:qw w R l e C) (m:qh w w'):qw w' R l e C:=by
 obtain⟨⟨v,d,G,N⟩,H,I,J⟩:=h;exact⟨⟨v,qj m d,G.keep m,N⟩,H,I,J⟩
def qw.mono (h:qw w R l e C) (k: ∀g,C g->D g):qw w R l e D:=by
 obtain⟨⟨v,d,G,N⟩,H,I,J⟩:=h;exact⟨⟨v,d,G,λx g y=>k g (N x g y)⟩,H,I,J⟩
def qw.old (h:qw w R l e C):qw w R l e (λg=>C g/\g<w.heap.size):=by
 obtain⟨⟨v,G,d,N⟩,H,I,J⟩:=h;refine⟨⟨v,G,d,λx g y=>⟨N x g y, ?_⟩⟩,H,I,J⟩;obtain⟨Y,cap,rfl,_,U,_⟩:=d;obtain⟨b,aa,rfl,O,_⟩:=U 0 (C0.2 x);obtain rfl:b=g:=by injection y
 exact O
def Ed (h:SlI .u8 w v l) (J: ¬l=[]-> ∀b,v.ownBlock=ϊ b-> ¬D b) (a:qk D w w'):SlI .u8 w' v l:=by
 obtain⟨O,cap,rfl,G,H,I⟩:=h;refine⟨O,cap,rfl,G,λi hi=> ?_,I⟩;obtain⟨b,U,rfl,d,N⟩:=H i hi;exact⟨b,U,rfl,ϗ d a.size,by rw[a.cells b _ d (J (λe=>by rw[e] at hi;simp at hi) b rfl)];exact N⟩
def qw.off (h:qw w R l e C) (m:qk D w w') (U: ¬D R) (O: ∀g,C g-> ¬D g):qw w' R l e C:=by
 obtain⟨⟨v,G,H,d⟩,I,J,N⟩:=h;exact⟨⟨v,m.blk G U,Ed H (λx b y=>O b (d x b y)) m,d⟩,I,J,N⟩
def Uf (h:qw w R l e C) (o:Nat) (x:Int):w.cell? ⟨R,o,ϋ⟩≠ϊ (υ x):=by
 obtain⟨⟨v,d,⟨G,cap,rfl,_⟩,_⟩,_⟩:=h;rw[cell_of_row w R o _ _ _ d]
 match o with
 | 0=>simp
 | 1=>simp
 | n+2=>simp
def SlI.away (h:SlI .u8 w v l) (m:qk S w w') (O: ∀b,S b-> ∀o x,w.cell? ⟨b,o,ϋ⟩≠ϊ (υ x)):SlI .u8 w' v l:=by
 obtain⟨U,cap,H,I,J,N⟩:=h;refine⟨U,cap,H,I,λi hi=> ?_,N⟩;obtain⟨b,Y,e,d,G⟩:=J i hi;exact⟨b,Y,e,ϗ d m.size,by rw[m.cells b _ d (λs=>O b s _ _ G)];exact G⟩
def xB:Byt []:=by intro i;simp
def Byt.drop (h:Byt l) (n:Nat):Byt (l.drop n):=by
 intro i;have:=h (n+i);rw[ϑ] at this ⊢;rw[D4];exact this
def Byt.take (h:Byt l) (n:Nat):Byt (l.take n):=by
 intro i;have:=h i;rw[ϑ] at this ⊢;rw[A8];split
 ·exact this
 ·simp
def tkB (l:List Int) (n:Int):List Int:=if n<=l.length then l.take n.toNat else []
def tkL (l:List Int) (n:Int):List Int:=l.drop n.toNat
def tkE (l:List Int) (n e:Int):Int:=if (l.length:Int)<n/\e=0 then 3 else e
def GQ (a b:List Int):tkB (a++b) a.length=a:=by
 unfold tkB;rw[ϒ (by simp;omega)];simp
def GO (a b:List Int):tkL (a++b) a.length=b:=by
 unfold tkL;simp
def GP (a b:List Int) (e:Int):tkE (a++b) a.length e=e:=by
 unfold tkE;rw[ώ (by simp;omega)]
def yB {a b:List Int} (d:Byt a) (G:Byt b):Byt (a++b):=by
 intro i;by_cases h:i<a.length
 ·have:=d i;rw[ϑ] at this ⊢;rw[ϻ h];exact this
 ·have:=G (i-a.length);rw[ϑ] at this ⊢;rw[ϯ τ];exact this
def zM (h:qw w R l e C):
  Calls prog 57 #[γ R] w λG w'=>G= .returned (ι l.length)/\w'=w:=by
 obtain⟨⟨v,d,⟨I,cap,rfl,_⟩,_⟩,_⟩:=h;have H:=β0 d;clear d
 go_enter func57,ntmps57
 go_wp2;go_ret;exact⟨rfl,rfl⟩
def NK (v:Value) (l:List Int) (w:World) (U:SlI .u8 w v l) (N:Byt l) (H:l.length<=1000000):
  Calls prog 51 #[v] w λe w'=> ∃R,e= .returned (γ R)/\w.heap.size<=R/\qw w' R l 0/\qh w w':=by
 go_enter func51,ntmps51
 go_wp2_with (go_at_call 50;refine(gc v l w U H).mono ?_;rintro e w2 ⟨ac,rfl,d,I⟩;have J:=κ d;have G:=κ I;obtain⟨ab,aa,Y,rfl,O⟩:=jc d;clear d I O)
 go_ret;exact⟨_,rfl,G.o.size,⟨⟨_,qp _ _,(SlI.of_owns J.o τ).keep Z0,λ_ _ _=>trivial⟩,H,N,λh=>ϧ rfl h⟩,G.o.al _⟩
def kQ (v:Value) (l:List Int) (w:World) (U:SlI .u8 w v l) (N:Byt l) (I:l.length<=1000000):
  Calls prog 51 #[v] w λe w'=> ∃R,e= .returned (γ R)/\w.heap.size<=R/\qw w' R l 0 (λg=>w.heap.size<=g/\g<w'.heap.size)/\qh w w':=by
 go_enter func51,ntmps51
 go_wp2_with (go_at_call 50;refine(gc v l w U I).mono ?_;rintro e w2 ⟨ac,rfl,G,J⟩;have d:=κ G;have H:=κ J;obtain⟨ab,aa,Y,rfl,O⟩:=jc G;clear G J O)
 go_ret;exact⟨_,rfl,H.o.size,⟨⟨_,qp _ _,(SlI.of_owns d.o τ).keep Z0,λ_ g y=>⟨jP d.o y,ϗ (Qv d.o y) Z0.size⟩⟩,I,N,λh=>ϧ rfl h⟩,H.o.al _⟩
def gY (h:qw w R l e C) (x:Int) (d:x=0∨(¬x=0/\ ¬e=0)):
  Calls prog 55 #[γ R,ι x] w λH w'=>H= .returned (.tuple #[])/\w'=w:=by
 obtain⟨⟨v,G,I,J⟩,_⟩:=h;have c1:=β1 G;clear G I J;rcases d with d | ⟨d,he⟩
 ·subst d
  go_enter func55,ntmps55
  go_wp2;refine bodyPost_ret (v:= .tuple #[]) ?rr rfl ?_
  case rr=>simp[results,results55,go_sem]
  exact⟨rfl,rfl⟩
 ·have N:(x==0)=ύ:=by simpa using d
  have O:(e != 0)=ό:=by simpa using he
  go_enter func55,ntmps55
  go_wp2;refine bodyPost_ret (v:= .tuple #[]) ?rr rfl ?_
  case rr=>simp[results,results55,go_sem]
  exact⟨rfl,rfl⟩
def Xb (h:qw w R l 0 C) (x:Int) (I: ¬x=0):
  Calls prog 55 #[γ R,ι x] w λH w'=>H= .returned (.tuple #[])/\qw w' R [] x C/\qk (λb=>b=R) w w':=by
 obtain⟨⟨v,d,⟨Y,cap,rfl,_⟩,_⟩,_⟩:=h;have J:=β0 d;have c1:=β1 d;have N:=ql d 0;have O:=ql d 1;have G:=κ d;have U:(x==0)=ύ:=by simpa using I
 clear d
 go_enter func55,ntmps55
 go_wp2;refine bodyPost_end (v:= .tuple #[]) ?rr rfl ?_
 case rr=>simp[results,results55,go_sem]
 exact⟨rfl,⟨⟨_,qF (qt (qt G.o 1 _) 0 _) rfl,SlI.nil _ _,λx=>ϧ rfl x⟩,η,xB,λ_=>rfl⟩,((qk.refl (λb=>b=R) w).set (p:=⟨R,1,ϋ⟩) rfl _).set (p:=⟨R,0,ϋ⟩) rfl _⟩
def Gk (n:Int) (G:n<=0) (h:qw w R l e C):
  Calls prog 110 #[γ R,ι n] w λd w'=>d= .returned (δ ϋ 0 0)/\w'=w:=by
 clear h
 go_enter func110,ntmps110
 go_wp2;go_ret;exact⟨rfl,rfl⟩
def VU (n:Int) (Y:0<n) (O:(l.length:Int)<n) (h:qw w R l e C):
  Calls prog 110 #[γ R,ι n] w λJ w'=>J= .returned (δ ϋ 0 0)/\qw w' R [] (tkE l n e) C/\qk (λb=>b=R) w w':=by
 have d:=κ h;obtain⟨⟨v,G,⟨aa,cap,rfl,_⟩,_⟩,_⟩:=h;have U:=β0 G;clear G;by_cases he:e=0
 ·subst he
  go_enter func110,ntmps110
  go_wp2_with (go_at_call 55;refine(Xb d.o 3 ζ).mono ?_;rintro e w2 ⟨rfl,N,I⟩)
  go_ret;refine⟨rfl, ?_,I⟩;have:tkE l n 0=3:=by unfold tkE;rw[ϒ ⟨O,rfl⟩]
  rw[this];exact N
 ·go_enter func110,ntmps110
  go_wp2_with (go_at_call 55;refine(gY d.o 3 (ϓ ⟨ζ,he⟩)).mono ?_;rintro e w2 ⟨rfl,rfl⟩)
  go_ret;have H:=d.o;have:tkE l n e=e:=by unfold tkE;rw[ώ (λx=>he x.2)]
  rw[this];obtain rfl:=H.shut he;exact⟨rfl,H,qk.refl _ _⟩
def EF {c m G k k':Nat} (h:(δ (if c=n then d else d.map (·.add n)) m k).ownBlock=ϊ g):(δ d G k').ownBlock=ϊ g:=by
 by_cases e:c=n
 ·rw[ϒ e] at h;cases d<;>exact h
 ·rw[ώ e] at h;cases d with
  | none=>exact h
  | some a=>
   simp only[D0,Value.ownBlock] at h ⊢;rw[<-h];unfold Addr.add;split<;>rfl
def UC (n:Nat) (ay:0<n) (ac:n<=l.length) (h:qw w R l e C):
  Calls prog 110 #[γ R,ι n] w λak w'=> ∃v',ak= .returned v'/\SlI .u8 w' v' (l.take n)/\qw w' R (l.drop n) e C/\qk (λb=>b=R) w w':=by
 have au:=κ h;have af:=λo x=>Uf h o x
 have aj:=κ af;obtain⟨⟨v,H,Y,ab⟩,ax,am,aa⟩:=h;have ai:=κ ab;clear ab;have ag:=κ H;have O:=κ Y;obtain⟨N,cap,rfl,an,ao,ap,aq,ar⟩:=Y;have av:=β0 H;have aw:=ql H 0;have aB: ¬(l.length:Int)<(n:Int):=by omega
 have az:(n:Int)<=(cap:Int):=by omega
 have aC:(n:Int)<=(l.length:Int):=by omega
 have aA:(0:Int)<=(n:Int):=by omega
 have ah:=κ aa;clear H an ao ap aq ar aa af;have ae: ∀G d,(G=if cap=n then N else N.map (·.add n))->d=cap-n-> ∃v',Ending.returned (δ N n n)= .returned v'/\SlI .u8 (w.setCell ⟨R,0,ϋ⟩ (δ G (l.length-n) d)) v' (l.take n)/\qw (w.setCell ⟨R,0,ϋ⟩ (δ G (l.length-n) d)) R (l.drop n) e C/\qk (λb=>b=R) w (w.setCell ⟨R,0,ϋ⟩ (δ G (l.length-n) d)):=by
  intro G d U al;have I:qk (λb=>b=R) w (w.setCell ⟨R,0,ϋ⟩ (δ G (l.length-n) d)):=(qk.refl (λb=>b=R) w).set (p:=⟨R,0,ϋ⟩) rfl _;have ad: ∀b,b=R-> ∀o x,w.cell? ⟨b,o,ϋ⟩≠ϊ (υ x):=by rintro b rfl;exact aj.o
  subst al;exact⟨_,rfl,((O.o.take3 n ac).away I ad),⟨⟨_,qF (qt ag.o 0 _) rfl,(O.o.from_ n ac _ U).away I ad,λx g y=>ai.o (λz=>x (by rw[z];simp)) g (by subst U;exact EF y)⟩,by simp;omega,am.drop n,λx=>by rw[ah.o x];simp⟩,I⟩
 have J:=κ ae;clear ae
 go_enter func110,ntmps110
 go_wp2
 all_goals (go_ret;first | exact J.o _ _ rfl rfl | exact J.o _ _ (by rw[ϒ τ]) τ | exact J.o _ _ (by rw[ώ τ]) rfl)
def uz (n:Int) (h:qw w R l e C):
  Calls prog 110 #[γ R,ι n] w λH w'=> ∃v',H= .returned v'/\SlI .u8 w' v' (tkB l n)/\qw w' R (tkL l n) (tkE l n e) C/\qk (λb=>b=R) w w':=by
 by_cases h0:n<=0
 ·refine(Gk n h0 h).mono ?_;rintro H w' ⟨rfl,rfl⟩;have O:n.toNat=0:=by omega
  have d:tkB l n=[]:=by unfold tkB;rw[O];split<;>simp
  have J:tkE l n e=e:=by unfold tkE;rw[ώ τ]
  have G:tkL l n=l:=by unfold tkL;rw[O];simp
  rw[d,J,G];exact⟨_,rfl,SlI.nil _ _,h,qk.refl _ _⟩
 ·by_cases h1:(l.length:Int)<n
  ·refine(VU n τ h1 h).mono ?_;rintro H w' ⟨rfl,N,I⟩;have d:tkB l n=[]:=by unfold tkB;rw[ώ τ]
   have G:tkL l n=[]:=by unfold tkL;exact I8 τ
   rw[d,G];exact⟨_,rfl,SlI.nil _ _,N,I⟩
  ·obtain⟨k,rfl⟩: ∃k:Nat,n=k:=⟨n.toNat,τ⟩;refine(UC k τ τ h).mono ?_;rintro H w' ⟨v',rfl,N,U,I⟩;have d:tkB l k=l.take k:=by unfold tkB;rw[ϒ τ];simp
   have G:tkL l k=l.drop k:=by unfold tkL;simp
   have J:tkE l k e=e:=by unfold tkE;rw[ώ τ]
   rw[d,J,G];exact⟨_,rfl,N,U,I⟩
def jX (h:Byt l) (n:Int):Byt (tkB l n):=by
 unfold tkB;split
 ·exact h.take _
 ·exact xB
def zE (l:List Int) (n:Int) (d:0<=n):((tkB l n).length:Int)<=n:=by
 unfold tkB;split
 ·rw[ϛ];omega
 ·exact d
def zY (l:List Int) (k:Nat) (h:Byt l) (H:(l.length:Int)<=k) (G:k<=8):0<=num l/\num l<2 ^ (8* k):=by
 have d:=Vl l h;rw[wy l h τ];refine⟨d.1,K6 d.2 ?_⟩;have:2 ^ (8* l.length)<=2 ^ (8* k):=D5 ζ τ
 exact_mod_cast this
def Z3 (h:qw w R l e C) (n:Nat) (ad:n<=1):
  Calls prog 109 #[.func (.func 110) #[γ R] #[],ι n] w λO w'=>O= .returned (υ (num (tkB l n)))/\qw w' R (tkL l n) (tkE l n e) C/\qk (λb=>b=R) w w':=by
 have H:=jX h.byt n;have d:=zY (tkB l n) n H (zE l n τ) τ;have I:(2:Int) ^ (8* n)<=2 ^ (8* 1):=by
  have:2 ^ (8* n)<=2 ^ (8* 1):=D5 ζ τ
  exact_mod_cast this
 have J:IntKind.u8.wrap (num (tkB l n))=num (tkB l n):=G1 d.1 (K6 d.2 I);have G:=κ J;clear J d I
 go_enter func109,ntmps109
 go_wp2_with first | (go_at_call 110;refine(uz n h).mono ?_;rintro ab w1 ⟨aa,rfl,Y,U,N⟩) | (go_at_call 167;refine(gZ _ aa _ Y H).mono ?_;rintro ac w2 ⟨rfl,rfl⟩)
 go_ret;exact⟨by first | exact zn G.o | rfl | exact ϰ _ (by rw[G.o]),U,N⟩
def Xo (h:qw w R l e C) (n:Nat) (ad:n<=2):
  Calls prog 111 #[.func (.func 110) #[γ R] #[],ι n] w λO w'=>O= .returned (φ (num (tkB l n)))/\qw w' R (tkL l n) (tkE l n e) C/\qk (λb=>b=R) w w':=by
 have H:=jX h.byt n;have d:=zY (tkB l n) n H (zE l n τ) τ;have I:(2:Int) ^ (8* n)<=2 ^ (8* 2):=by
  have:2 ^ (8* n)<=2 ^ (8* 2):=D5 ζ τ
  exact_mod_cast this
 have J:IntKind.u16.wrap (num (tkB l n))=num (tkB l n):=G1 d.1 (K6 d.2 I);have G:=κ J;clear J d I
 go_enter func111,ntmps111
 go_wp2_with first | (go_at_call 110;refine(uz n h).mono ?_;rintro ab w1 ⟨aa,rfl,Y,U,N⟩) | (go_at_call 167;refine(gZ _ aa _ Y H).mono ?_;rintro ac w2 ⟨rfl,rfl⟩)
 go_ret;exact⟨by first | exact zn G.o | rfl | exact ϰ _ (by rw[G.o]),U,N⟩
def uF (h:qw w R l e C) (n:Nat) (ad:n<=4):
  Calls prog 112 #[.func (.func 110) #[γ R] #[],ι n] w λO w'=>O= .returned (ω (num (tkB l n)))/\qw w' R (tkL l n) (tkE l n e) C/\qk (λb=>b=R) w w':=by
 have H:=jX h.byt n;have d:=zY (tkB l n) n H (zE l n τ) τ;have I:(2:Int) ^ (8* n)<=2 ^ (8* 4):=by
  have:2 ^ (8* n)<=2 ^ (8* 4):=D5 ζ τ
  exact_mod_cast this
 have J:IntKind.u32.wrap (num (tkB l n))=num (tkB l n):=G1 d.1 (K6 d.2 I);have G:=κ J;clear J d I
 go_enter func112,ntmps112
 go_wp2_with first | (go_at_call 110;refine(uz n h).mono ?_;rintro ab w1 ⟨aa,rfl,Y,U,N⟩) | (go_at_call 167;refine(gZ _ aa _ Y H).mono ?_;rintro ac w2 ⟨rfl,rfl⟩)
 go_ret;exact⟨by first | exact zn G.o | rfl | exact ϰ _ (by rw[G.o]),U,N⟩
def xb (h:qw w R l e C):
  Calls prog 52 #[γ R] w λG w'=>G= .returned (υ (num (tkB l 1)))/\qw w' R (tkL l 1) (tkE l 1 e) C/\qk (λb=>b=R) w w':=by
 go_enter func52,ntmps52
 go_wp2_with (go_at_call 109;refine(Z3 h 1 ζ).mono ?_;rintro I w1 ⟨rfl,H,d⟩)
 go_ret;exact⟨rfl,H,d⟩
def xF (h:qw w R l e C):
  Calls prog 53 #[γ R] w λG w'=>G= .returned (φ (num (tkB l 2)))/\qw w' R (tkL l 2) (tkE l 2 e) C/\qk (λb=>b=R) w w':=by
 go_enter func53,ntmps53
 go_wp2_with (go_at_call 111;refine(Xo h 2 ζ).mono ?_;rintro I w1 ⟨rfl,H,d⟩)
 go_ret;exact⟨rfl,H,d⟩
def Xc (h:qw w R l e C):
  Calls prog 328 #[γ R] w λG w'=>G= .returned (ω (num (tkB l 3)))/\qw w' R (tkL l 3) (tkE l 3 e) C/\qk (λb=>b=R) w w':=by
 go_enter func328,ntmps328
 go_wp2_with (go_at_call 112;refine(uF h 3 ζ).mono ?_;rintro I w1 ⟨rfl,H,d⟩)
 go_ret;exact⟨rfl,H,d⟩
def jK (h:qw w R l e C):
  Calls prog 54 #[γ R] w λG w'=>G= .returned (ω (num (tkB l 4)))/\qw w' R (tkL l 4) (tkE l 4 e) C/\qk (λb=>b=R) w w':=by
 go_enter func54,ntmps54
 go_wp2_with (go_at_call 112;refine(uF h 4 ζ).mono ?_;rintro I w1 ⟨rfl,H,d⟩)
 go_ret;exact⟨rfl,H,d⟩
def Kb (l:List Int) (n:Int):(tkB l n).length<=l.length:=by
 unfold tkB;split
 ·rw[ϛ];omega
 ·simp
def kV {d e size:Nat} (h:w.ownsRow base e size v n xs) (I:d<=base):w.ownsRow d e size v n xs:=by
 obtain⟨G,H⟩:=h;refine⟨G, ?_⟩;rcases H with h | ⟨b,cap,cur,e1,hb',rest⟩
 ·exact ϐ h
 ·exact ϓ ⟨b,cap,cur,e1,ϙ I hb',rest⟩
def Jz (n:Int) (h:qw w R l e C):
  Calls prog 56 #[γ R,ι n] w λH w'=> ∃v',H= .returned v'/\w'.ownsRow w.heap.size 5 1 v' (tkB l n).length ((tkB l n).map (Value.int .u8))/\qw w' R (tkL l n) (tkE l n e) C/\qk (λb=>b=R) w w':=by
 have ab:=Kb l n;have aa:=h.small
 go_enter func56,ntmps56
 go_wp2_with first | (go_at_call 110;refine(uz n h).mono ?_;rintro U w1 ⟨O,rfl,N,I,d⟩) | (go_at_call 50;refine(gc O _ _ N τ).mono ?_;rintro Y w2 ⟨ac,rfl,J,G⟩)
 go_ret;exact⟨_,rfl,kV J d.size,I.more G,d.more G⟩
def vF (h:qw w R l e C):
  Calls prog 59 #[γ R] w λG w'=>G= .returned (ι (if ¬e=0 then e else if 0<l.length then 4 else 0))/\w'=w:=by
 obtain⟨⟨v,d,⟨O,cap,rfl,_⟩,_⟩,_,_,J⟩:=h;have I:=β0 d;have c1:=β1 d;clear d;by_cases he:e=0
 ·subst he;by_cases hl:0<l.length
  ·have H:(0:Int)<(l.length:Int):=by omega
   go_enter func59,ntmps59
   go_wp2;go_ret;simp[hl]
  ·have H: ¬(0:Int)<(l.length:Int):=by omega
   go_enter func59,ntmps59
   go_wp2;go_ret;simp[hl]
 ·have N:(e != 0)=ό:=by simpa using he
  go_enter func59,ntmps59
  go_wp2;go_ret;simp[he]
abbrev U16 (n:Int):Prop:=0<=n/\n<=65535
def qQ (n s:Int) (d:0<=s/\s<=8):(qy n s).length=s.toNat:=by
 rw[QL n s d,yp]
def zK (x:Int) (k:Nat) (H:0<=x) (G:k<=8) (h:x<2 ^ (8* k)):num (qy x k)=x:=by
 have d:qy x k=bys x k:=by rw[QL _ _ τ];simp
 rw[d,wy _ (XG _ _) (by rw[yp];exact G),Ks];exact G1 H h
def wI {n:Int} (d:0<=n) (h:n<=l.length):l=tkB l n++tkL l n/\((tkB l n).length:Int)=n:=by
 unfold tkB tkL;rw[ϒ h];refine⟨(A5 _ _).symm, ?_⟩;rw[ϛ];omega
def QM (h:Byt l) (k:Nat) (H:(l.length:Int)=k) (G:k<=8):qy (num l) k=l:=by
 have d:l.length=k:=by omega
 rw[QL _ _ τ];simp only[A7];rw[<-d];exact IT l h τ
abbrev RdS:=List Int×Int
variable {s:RdS}
def wrS (s:RdS) (x:Int):RdS:=if x=0∨ ¬s.2=0 then s else ([],x)
def tkS (s:RdS) (n:Int):RdS:=(tkL s.1 n,tkE s.1 n s.2)
def zN (h:qw w R s.1 s.2 C) (x:Int):
  Calls prog 55 #[γ R,ι x] w λd w'=>d= .returned (.tuple #[])/\qw w' R (wrS s x).1 (wrS s x).2 C/\qk (λb=>b=R) w w':=by
 obtain⟨l,e⟩:=s;simp only at h;by_cases hx:x=0
 ·refine(gY h x (ϐ hx)).mono ?_;rintro d w' ⟨rfl,rfl⟩;have:wrS (l,e) x=(l,e):=by unfold wrS;rw[ϒ (ϐ hx)]
  rw[this];exact⟨rfl,h,qk.refl _ _⟩
 ·by_cases he:e=0
  ·subst he;refine(Xb h x hx).mono ?_;rintro d w' ⟨rfl,H,G⟩;have:wrS (l,0) x=([],x):=by unfold wrS;rw[ώ (by simp[hx])]
   rw[this];exact⟨rfl,H,G⟩
  ·refine(gY h x (ϓ ⟨hx,he⟩)).mono ?_;rintro d w' ⟨rfl,rfl⟩;have:wrS (l,e) x=(l,e):=by unfold wrS;rw[ϒ (ϓ he)]
   rw[this];exact⟨rfl,h,qk.refl _ _⟩
abbrev U32 (n:Int):Prop:=0<=n/\n<=4294967295
def adv (s:RdS) (n:Nat):RdS:=if s.2=0 then (if n<=s.1.length then (s.1.drop n,0) else ([],3)) else ([],s.2)
def Xm (s:RdS):Prop:= ¬s.2=0->s.1=[]
def Qs (n:Nat) (h:Xm s):tkS s n=adv s n:=by
 obtain⟨l,e⟩:=s;unfold tkS adv tkL tkE;simp only[A7];by_cases he:e=0
 ·subst he;rw[ϒ rfl];by_cases hn:n<=l.length
  ·rw[ϒ hn,ώ τ]
  ·rw[ώ hn,ϒ τ,I8 τ]
 ·have d:l=[]:=h he;subst d;rw[ώ he,ώ (λx=>he x.2)];simp
def vQ (s:RdS) (n:Nat):Xm (adv s n):=by
 unfold Xm adv;split
 ·split
  ·intro h;exact ϧ rfl h
  ·intro _;rfl
 ·intro _;rfl
def Qz (s:RdS) (a b:Nat):adv (adv s a) b=adv s (a+b):=by
 obtain⟨l,e⟩:=s;unfold adv;simp only;by_cases he:e=0
 ·subst he;simp only[Ψ];by_cases ha:a<=l.length
  ·rw[ϒ ha];simp only[Ψ,Ϡ,U2];by_cases hb:a+b<=l.length
   ·rw[ϒ τ,ϒ hb]
   ·rw[ώ τ,ώ hb]
  ·rw[ώ ha];simp;omega
 ·rw[ώ he,ώ he];simp[he]
def xU (a b:Nat):tkS (adv s a) b=adv s (a+b):=by rw[Qs b (vQ s a),Qz]
def FK (h:Xm s):adv s 0=s:=by
 obtain⟨l,e⟩:=s;unfold adv;by_cases he:e=0
 ·subst he;simp
 ·have d:l=[]:=h he;subst d;simp[he]
def Jy (x:Int):qy (x%16777216) 3=qy x 3:=by
 have h: ∀j,j<3->by8 (x%16777216) j=by8 x j:=by
  intro j d;unfold by8
  match j,d with
  | 0,_=>simp
  | 1,_=>simp;omega
  | 2,_=>simp;omega
 show [by8 (x%16777216) 2,by8 (x%16777216) 1,by8 (x%16777216) 0]=[by8 x 2,by8 x 1,by8 x 0];rw[h 0 ζ,h 1 ζ,h 2 ζ]
def zI (x:Int) (k:Nat) (G:k<=8) (r:List Int):tkS (qy x k++r,0) k=(r,0)/\tkB (qy x k++r) k=qy x k:=by
 have d:((qy x k).length:Int)=k:=by rw[qQ _ _ τ];simp
 have a:=GQ (qy x k) r;have b:=GO (qy x k) r;have c:=GP (qy x k) r 0;rw[d] at a b c;unfold tkS;simp only[a,b,c,and_self]
def gP (k:Nat) (G:k<=8) (d:Byt L) (h:k<=L.length): ∃x r,L=qy x k++r/\0<=x/\x<2 ^ (8* k)/\Byt r:=by
 obtain⟨j,q⟩:=wI (l:=L) (n:=(k:Int)) τ τ;have H:=zY (tkB L k) k (jX d k) τ G;refine⟨num (tkB L k),tkL L k, ?_,H.1,H.2,d.drop _⟩;rw[QM (jX d k) k q G];exact j
def xM (J:Byt L) (h:4<=L.length): ∃x r,L=qy x 4++r/\U32 x/\Byt r:=by
 obtain⟨x,r,G,H,d,I⟩:=gP 4 ζ J h;have d:x<4294967296:=d;exact⟨x,r,G,⟨H,τ⟩,I⟩
structure Pk where
 mr:Bool
 ty:Int
 sq:Int
 st:Int
 sc:Int
 ss:List Int
 has:Bool
 pr:Int
 ex:List Int
 pl:List Int
variable {p:Pk}
def pk0:Pk:=⟨ύ,0,0,0,0,[],ύ,0,[],[]⟩
structure ud (p:Pk):Prop where
 ty:0<=p.ty/\p.ty<=255
 sq:U16 p.sq
 st:U32 p.st
 sc:U32 p.sc
 ss: ∀i,U32 (p.ss.getD i 0)
 pr:U16 p.pr
 ex:Byt p.ex
 pl:Byt p.pl
def uO (p:Pk):Int:=12+4* (p.ss.length:Int)+(p.pl.length:Int)+if p.has then 4+(p.ex.length:Int) else 0
def jD (p:Pk):Bool:=decide (p.ty<=127)&&decide ((p.ss.length:Int)<=15)&&(p.has||(decide (p.pr=0)&&decide (p.ex=[])))&&decide ((p.ex.length:Int)%4=0)&&decide (uO p<=200)
def jZ (p:Pk):jD p=ό↔p.ty<=127/\(p.ss.length:Int)<=15/\(p.has=ύ->p.pr=0/\p.ex=[])/\(p.ex.length:Int)%4=0/\uO p<=200:=by
 unfold jD;cases h:p.has<;>simp[and_assoc]
def kr (p:Pk):Int:=128+(p.ss.length:Int)+if p.has then 16 else 0
def uJ (p:Pk):Int:=p.ty+if p.mr then 128 else 0
def ssB (l:List Int):List Int:=l.flatMap λx=>qy x 4
def Kh (l:List Int) (x:Int):ssB (l++[x])=ssB l++qy x 4:=by simp[ssB]
def GU (l:List Int):(ssB l).length=4* l.length:=by
 induction l with
 | nil=>rfl
 | cons x l ih=>
  show (qy x 4++ssB l).length=_;rw[Ϗ,ih,qQ _ _ ζ,Ϙ];show 4+4* l.length=_;omega
def uc (p:Pk):List Int:=qy (kr p) 1++qy (uJ p) 1++qy p.sq 2++qy p.st 4++qy p.sc 4
def Jd (p:Pk):List Int:=qy p.pr 2++qy ((p.ex.length:Int)/4) 2++p.ex
def Xg (p:Pk):List Int:=uc p++ssB p.ss++if p.has then Jd p else []
def pkB (p:Pk):List Int:=Xg p++p.pl
def xf:Nat->RdS->List Int×RdS
 | 0,s=>([],s)
 | n+1,s=>((xf n s).1++[num (tkB (xf n s).2.1 4)],tkS (xf n s).2 4)
def za (b:List Int):List Int×Bool:=
 if b=[] then ([],ύ) else if b.getD (b.length-1) 0=0∨(b.length:Int)<b.getD (b.length-1) 0 then ([],ύ) else (b.take (b.length-(b.getD (b.length-1) 0).toNat),ό)
def yR (f:Int) (s:RdS):List Int×Int:=
 if ¬s.2=0 then ([],s.2) else if f/32%2=1 then (if (za s.1).2 then ((za s.1).1,0) else ([],2)) else (s.1,0)
def gE (s:RdS):(Int×List Int)×RdS:=((num (tkB s.1 2),tkB (tkS (tkS s 2) 2).1 (4* num (tkB (tkS s 2).1 2))),tkS (tkS (tkS s 2) 2) (4* num (tkB (tkS s 2).1 2)))
def zU (f:Int) (s:RdS):(List Int×Int×List Int)×RdS:=
 if f/16%2=1 then (((xf (f%16).toNat s).1,(gE (xf (f%16).toNat s).2).1.1,(gE (xf (f%16).toNat s).2).1.2),(gE (xf (f%16).toNat s).2).2)
 else (((xf (f%16).toNat s).1,0,[]),(xf (f%16).toNat s).2)
def s1H (b:List Int):RdS:=tkS (b,0) 1
def s2H (b:List Int):RdS:=tkS (s1H b) 1
def s3H (b:List Int):RdS:=tkS (s2H b) 2
def s4H (b:List Int):RdS:=tkS (s3H b) 4
def s5H (b:List Int):RdS:=tkS (s4H b) 4
def yA (f:Int) (s:RdS):RdS:=if f<128∨191<f then wrS s 2 else s
def fH (b:List Int):Int:=num (tkB b 1)
def gH (b:List Int):Int:=num (tkB (s1H b).1 1)
def mkH (b:List Int) (x:List Int×Int×List Int) (l:List Int):Pk:=
 ⟨decide (128<=gH b),gH b%128,num (tkB (s2H b).1 2),num (tkB (s3H b).1 4),num (tkB (s4H b).1 4),x.1,decide (fH b/16%2=1),x.2.1,x.2.2,l⟩
def Xk (b:List Int) (x:(List Int×Int×List Int)×RdS):Pk×Int:=
 if (yR (fH b) x.2).2=0 then (mkH b x.1 (yR (fH b) x.2).1,0) else (pk0,(yR (fH b) x.2).2)
def jS (b:List Int):Pk×Int:=
 if (200:Int)<b.length then (pk0,4) else Xk b (zU (fH b) (yA (fH b) (s5H b)))
def GZ (b:List Int):s5H b=adv (b,0) 12:=by
 have h:Xm (b,0):=λh=>ϧ rfl h
 show tkS (tkS (tkS (tkS (tkS (b,0) (1:Nat)) (1:Nat)) (2:Nat)) (4:Nat)) (4:Nat)=_;rw[Qs 1 h,xU,xU,xU,xU]
def QG: ∀(n:Nat) (s:RdS),(xf n s).1.length=n
 | 0,_=>rfl
 | n+1,s=>by
  show ((xf n s).1++[_]).length=_;rw[Ϗ,QG n];rfl
def GN (e n:Int) (h: ¬e=0):tkS ([],e) n=([],e):=by
 unfold tkS;rw[tkL_nil',tkE_bad h]
where
 tkL_nil':tkL ([]:List Int) n=[]:=by unfold tkL;simp
 tkE_bad (he: ¬e=0):tkE [] n e=e:=by unfold tkE;rw[ώ (λx=>he x.2)]
def Zd (e:Int) (h: ¬e=0): ∀n,(xf n ([],e)).2=([],e)
 | 0=>rfl
 | n+1=>by
  show tkS (xf n ([],e)).2 4=_;rw[Zd e h n,GN e 4 h]
def Dp (f e:Int) (h: ¬e=0):(zU f ([],e)).2=([],e):=by
 unfold zU gE;split
 ·simp only[Zd e h,GN e _ h]
 ·simp only[Zd e h]
def KN (b:List Int) (f e:Int) (h: ¬e=0):Xk b (zU f ([],e))=(pk0,e):=by
 have d:yR (fH b) (zU f ([],e)).2=([],e):=by
  rw[Dp f e h];unfold yR;rw[ϒ h]
 unfold Xk;rw[d];simp only;rw[ώ h]
def UQ (b:List Int):Pk×Int:=
 if (200:Int)<b.length then (pk0,4) else if (b.length:Int)<12 then (pk0,3) else if fH b<128∨191<fH b then (pk0,2) else Xk b (zU (fH b) (b.drop 12,0))
def Dv (b:List Int):UQ b=jS b:=by
 unfold UQ jS;by_cases h1:(200:Int)<b.length
 ·rw[ϒ h1,ϒ h1]
 rw[ώ h1,ώ h1];have d:s5H b=if 12<=b.length then (b.drop 12,0) else ([],3):=by
  rw[GZ];unfold adv;simp
 by_cases h2:(b.length:Int)<12
 ·rw[ϒ h2];rw[ώ τ] at d;have:yA (fH b) ([],3)=([],3):=by unfold yA wrS;simp
  rw[d,this,KN b _ 3 ζ]
 rw[ώ h2];rw[ϒ τ] at d;rw[d];by_cases h3:fH b<128∨191<fH b
 ·rw[ϒ h3];have:yA (fH b) (b.drop 12,0)=([],2):=by unfold yA wrS;rw[ϒ h3];simp
  rw[this,KN b _ 2 ζ]
 ·rw[ώ h3];have:yA (fH b) (b.drop 12,0)=(b.drop 12,0):=by unfold yA;rw[ώ h3]
  rw[this]
def Eq: ∀(l r:List Int),(∀i,U32 (l.getD i 0))->xf l.length (ssB l++r,0)=(l,(r,0)):=by
 intro l
 induction l using uU
 ·intro r _;rfl
 ·rename_i l x N;intro r h;have H:U32 x:=by
   have:=h l.length
   simpa using this
  have J: ∀i,U32 (l.getD i 0):=λi=>by
   by_cases e:i<l.length
   ·have:=h i;rw[ϑ,ϻ e] at this;rw[ϑ];exact this
   ·rw[ϑ,G4 τ];exact⟨ζ,ζ⟩
  have I:(l++[x]).length=l.length+1:=by simp
  rw[I,Kh,Ϫ];unfold xf;rw[N (qy x 4++r) J];obtain⟨d,G⟩:=zI x 4 ζ r;have d:tkS (qy x 4++r,0) 4=(r,0):=d;have G:tkB (qy x 4++r) 4=qy x 4:=G;simp only[d,G];rw[show num (qy x 4)=x from zK x 4 H.1 ζ (by have:=H.2;show x<4294967296;omega)]
def Fx (p:Pk):(uc p).length=12:=by
 unfold uc;simp only[Ϗ,qQ _ 1 ζ,qQ _ 2 ζ,qQ _ 4 ζ]
 decide
def Ex (p:Pk):((Xg p).length:Int)=12+4* (p.ss.length:Int)+if p.has then 4+(p.ex.length:Int) else 0:=by
 unfold Xg;rw[Ϗ,Ϗ,Fx,GU];cases p.has
 ·simp
 ·simp only[Ψ,Jd,Ϗ,qQ _ 2 ζ];show ((12+4* p.ss.length+(2+2+p.ex.length):Nat):Int)=_;omega
def Xw (p:Pk):((pkB p).length:Int)=uO p:=by
 unfold pkB uO;rw[Ϗ];have:=Ex p;omega
def Fw (ab:jD p=ό) (d:ud p) (r:List Int):
  fH (uc p++r)=kr p/\gH (uc p++r)=uJ p/\num (tkB (s2H (uc p++r)).1 2)=p.sq/\num (tkB (s3H (uc p++r)).1 4)=p.st/\num (tkB (s4H (uc p++r)).1 4)=p.sc/\s5H (uc p++r)=(r,0):=by
 obtain⟨ac,ad,ae,af,ag⟩:=(jZ p).1 ab;have e:uc p++r=qy (kr p) 1++(qy (uJ p) 1++(qy p.sq 2++(qy p.st 4++(qy p.sc 4++r)))):=by unfold uc;simp only[Ϫ]
 obtain⟨I,N⟩:=zI (kr p) 1 ζ (qy (uJ p) 1++(qy p.sq 2++(qy p.st 4++(qy p.sc 4++r))));obtain⟨J,O⟩:=zI (uJ p) 1 ζ (qy p.sq 2++(qy p.st 4++(qy p.sc 4++r)));obtain⟨a3,U⟩:=zI p.sq 2 ζ (qy p.st 4++(qy p.sc 4++r));obtain⟨a4,Y⟩:=zI p.st 4 ζ (qy p.sc 4++r);obtain⟨a5,aa⟩:=zI p.sc 4 ζ r;have t1:s1H (uc p++r)=(qy (uJ p) 1++(qy p.sq 2++(qy p.st 4++(qy p.sc 4++r))),0):=by unfold s1H;rw[e];exact I
 have t2:s2H (uc p++r)=(qy p.sq 2++(qy p.st 4++(qy p.sc 4++r)),0):=by unfold s2H;rw[t1];exact J
 have t3:s3H (uc p++r)=(qy p.st 4++(qy p.sc 4++r),0):=by unfold s3H;rw[t2];exact a3
 have t4:s4H (uc p++r)=(qy p.sc 4++r,0):=by unfold s4H;rw[t3];exact a4
 have t5:s5H (uc p++r)=(r,0):=by unfold s5H;rw[t4];exact a5
 have G:0<=kr p/\kr p<256:=by unfold kr;split<;>omega
 have H:0<=uJ p/\uJ p<256:=by have:=d.ty;unfold uJ;split<;>omega
 refine⟨?_, ?_, ?_, ?_, ?_,t5⟩
 ·unfold fH;rw[e];exact(ϰ num N).trans (zK _ 1 G.1 ζ G.2)
 ·unfold gH;rw[t1];exact(ϰ num O).trans (zK _ 1 H.1 ζ H.2)
 ·rw[t2];exact(ϰ num U).trans (zK _ 2 d.sq.1 ζ (by have:=d.sq.2;show _<65536;omega))
 ·rw[t3];exact(ϰ num Y).trans (zK _ 4 d.st.1 ζ (by have:=d.st.2;show _<4294967296;omega))
 ·rw[t4];exact(ϰ num aa).trans (zK _ 4 d.sc.1 ζ (by have:=d.sc.2;show _<4294967296;omega))
def DH (d:jD p=ό): ¬(kr p<128∨191<kr p)/\(kr p%16).toNat=p.ss.length/\(kr p/16%2=1↔p.has=ό)/\ ¬kr p/32%2=1:=by
 obtain⟨G,H,I,J,N⟩:=(jZ p).1 d;unfold kr;cases p.has<;>simp<;>omega
def Fz (aa:jD p=ό) (N:ud p) (r:List Int):gE (Jd p++r,0)=((p.pr,p.ex),(r,0)):=by
 obtain⟨ac,ad,Y,ae,J⟩:=(jZ p).1 aa;have e:Jd p++r=qy p.pr 2++(qy ((p.ex.length:Int)/4) 2++(p.ex++r)):=by unfold Jd;simp only[Ϫ]
 obtain⟨d,H⟩:=zI p.pr 2 ζ (qy ((p.ex.length:Int)/4) 2++(p.ex++r));obtain⟨G,I⟩:=zI ((p.ex.length:Int)/4) 2 ζ (p.ex++r);have d:tkS (qy p.pr 2++(qy ((p.ex.length:Int)/4) 2++(p.ex++r)),0) 2=(qy ((p.ex.length:Int)/4) 2++(p.ex++r),0):=d;have H:tkB (qy p.pr 2++(qy ((p.ex.length:Int)/4) 2++(p.ex++r))) 2=qy p.pr 2:=H;have G:tkS (qy ((p.ex.length:Int)/4) 2++(p.ex++r),0) 2=(p.ex++r,0):=G;have I:tkB (qy ((p.ex.length:Int)/4) 2++(p.ex++r)) 2=qy ((p.ex.length:Int)/4) 2:=I;have af:(p.ex.length:Int)<=200:=by
  unfold uO at J;cases hh:p.has with
  | false=>have:=(Y hh).2;rw[this];simp
  | true=>rw[hh] at J;simp at J;omega
 have n2:num (qy ((p.ex.length:Int)/4) 2)=(p.ex.length:Int)/4:=zK _ 2 τ ζ (by show _<65536;omega);have ab:num (qy p.pr 2)=p.pr:=zK _ 2 N.pr.1 ζ (by have:=N.pr.2;show _<65536;omega);have U:4* ((p.ex.length:Int)/4)=(p.ex.length:Int):=by omega
 have a3:=GQ p.ex r;have O:=GO p.ex r;have c3:=GP p.ex r 0;unfold gE;rw[e];simp only[d,H,G,I,ab,n2,U];unfold tkS;simp only[a3,O,c3]
def El (H:jD p=ό) (G:ud p) (l:List Int) (am:((Xg p).length+l.length:Int)<=200):jS (Xg p++l)=({p with pl:=l},0):=by
 obtain⟨ai,aj,ae,ak,al⟩:=(jZ p).1 H;obtain⟨ah,o2,N,af⟩:=DH H;have e:Xg p++l=uc p++(ssB p.ss++((if p.has then Jd p else [])++l)):=by unfold Xg;simp only[Ϫ]
 obtain⟨d,O,U,Y,aa,ad⟩:=Fw H G (ssB p.ss++((if p.has then Jd p else [])++l));rw[<-e] at d O U Y aa ad;unfold jS;rw[ώ (by rw[Ϗ];omega),ad,d];have ag:yA (kr p) (ssB p.ss++((if p.has then Jd p else [])++l),0)=(ssB p.ss++((if p.has then Jd p else [])++l),0):=by unfold yA;rw[ώ ah]
 rw[ag];have I:=Eq p.ss ((if p.has then Jd p else [])++l) G.ss;have J:decide (128<=uJ p)=p.mr/\uJ p%128=p.ty:=by
  have:=G.ty;unfold uJ;cases p.mr<;>simp<;>omega
 cases hh:p.has with
 | true=>
  rw[hh] at I;have ac:zU (kr p) (ssB p.ss++((if ό=ό then Jd p else [])++l),0)=((p.ss,p.pr,p.ex),(l,0)):=by
   unfold zU;rw[ϒ (N.2 hh),o2,I];simp only[Ψ,Fz H G l]
  rw[ac];have ab:yR (fH (Xg p++l)) (l,0)=(l,0):=by
   unfold yR;rw[d,ώ η,ώ af]
  unfold Xk;simp only[ab,Ψ];unfold mkH;rw[d,O,U,Y,aa,J.1,J.2,Ϩ (N.2 hh),<-hh]
 | false=>
  rw[hh] at I;have ac:zU (kr p) (ssB p.ss++((if ύ=ό then Jd p else [])++l),0)=((p.ss,p.pr,p.ex),(l,0)):=by
   unfold zU;rw[ώ (λg=>by have:=N.1 g;rw[hh] at this;cases this),o2,I,(ae hh).1,(ae hh).2];rfl
  rw[ac];have ab:yR (fH (Xg p++l)) (l,0)=(l,0):=by
   unfold yR;rw[d,ώ η,ώ af]
  unfold Xk;simp only[ab,Ψ];unfold mkH;rw[d,O,U,Y,aa,J.1,J.2,Ϯ (λg=>by have:=N.1 g;rw[hh] at this;cases this),<-hh]
def Γh (x:Pk) (a:Option Addr) (b:Nat) (c:Option Addr) (d:Nat) (e:Option Addr) (f:Nat):Mm:=.o
instance (x:Pk) (a:Option Addr) (b:Nat) (c:Option Addr) (d:Nat) (e:Option Addr) (f:Nat):CoeDep Mm (Γh x a b c d e f) (List Value):=⟨[μ x.mr,υ x.ty,φ x.sq,ω x.st,ω x.sc,δ a x.ss.length b,μ x.has,φ x.pr,δ c x.ex.length d,δ e x.pl.length f]⟩
instance (x:Pk) (a:Option Addr) (b:Nat) (c:Option Addr) (d:Nat) (e:Option Addr) (f:Nat):CoeDep Mm (Γh x a b c d e f) (Array Value):=⟨((Γh x a b c d e f):List Value).toArray⟩
instance (x:Pk) (a:Option Addr) (b:Nat) (c:Option Addr) (d:Nat) (e:Option Addr) (f:Nat):CoeDep Mm (Γh x a b c d e f) Value:=⟨θ (Γh x a b c d e f)⟩
def Γi (k:Int) (l:Int) (n:Int) (x:Pk) (a:Option Addr) (b:Nat) (c:Option Addr) (d:Nat) (e:Option Addr) (f:Nat):Mm:=.o
instance (k:Int) (l:Int) (n:Int) (x:Pk) (a:Option Addr) (b:Nat) (c:Option Addr) (d:Nat) (e:Option Addr) (f:Nat):CoeDep Mm (Γi k l n x a b c d e f) (List Value):=⟨[ι k,ι l,ι n,μ x.mr,υ x.ty,φ x.sq,ω x.st,ω x.sc,δ a x.ss.length b,μ x.has,φ x.pr,δ c x.ex.length d,δ e x.pl.length f]⟩
instance (k:Int) (l:Int) (n:Int) (x:Pk) (a:Option Addr) (b:Nat) (c:Option Addr) (d:Nat) (e:Option Addr) (f:Nat):CoeDep Mm (Γi k l n x a b c d e f) (Array Value):=⟨((Γi k l n x a b c d e f):List Value).toArray⟩
instance (k:Int) (l:Int) (n:Int) (x:Pk) (a:Option Addr) (b:Nat) (c:Option Addr) (d:Nat) (e:Option Addr) (f:Nat):CoeDep Mm (Γi k l n x a b c d e f) Value:=⟨θ (Γi k l n x a b c d e f)⟩
def Γq (x:Pk) (a:Value) (b:Value) (c:Value):Mm:=.o
instance (x:Pk) (a:Value) (b:Value) (c:Value):CoeDep Mm (Γq x a b c) (List Value):=⟨[μ x.mr,υ x.ty,φ x.sq,ω x.st,ω x.sc,a,μ x.has,φ x.pr,b,c]⟩
instance (x:Pk) (a:Value) (b:Value) (c:Value):CoeDep Mm (Γq x a b c) (Array Value):=⟨((Γq x a b c):List Value).toArray⟩
instance (x:Pk) (a:Value) (b:Value) (c:Value):CoeDep Mm (Γq x a b c) Value:=⟨θ (Γq x a b c)⟩
def Γr (k:Int) (l:Int) (n:Int) (x:Pk) (a:Value) (b:Value) (c:Value):Mm:=.o
instance (k:Int) (l:Int) (n:Int) (x:Pk) (a:Value) (b:Value) (c:Value):CoeDep Mm (Γr k l n x a b c) (List Value):=⟨[ι k,ι l,ι n,μ x.mr,υ x.ty,φ x.sq,ω x.st,ω x.sc,a,μ x.has,φ x.pr,b,c]⟩
instance (k:Int) (l:Int) (n:Int) (x:Pk) (a:Value) (b:Value) (c:Value):CoeDep Mm (Γr k l n x a b c) (Array Value):=⟨((Γr k l n x a b c):List Value).toArray⟩
instance (k:Int) (l:Int) (n:Int) (x:Pk) (a:Value) (b:Value) (c:Value):CoeDep Mm (Γr k l n x a b c) Value:=⟨θ (Γr k l n x a b c)⟩
def ZN {P:Program} {o:Oper} {C:World->Prop} (s x:Operand) (t:TypeId)
  (al:o.op= .call {callee:= .builtin .append,args:= #[s,x],argTypes:= #[t,t]})
  (base:Nat) (e:TypeId) (i:TypeInfo) (z:Value) (bytes:Nat) (aq:P.underlying t=ϊ (.slice e)) (hi:P.info? e=ϊ i) (av:i.zero=ϊ z)
  (ap:i.size=1) (af:i.bytes=bytes) (aw:z.cells.size=1)
  (v:Value) (k:IntKind) (l:List Int) (ao:a.eval s=v) (am:w.ownsRow base e 1 v l.length (l.map (Value.int k)))
  (G:Addr) (cap:Nat) (d:List Int) (au:a.eval x= δ (ϊ G) d.length cap) (ai:SlI k w (δ (ϊ G) d.length cap) d)
  (ag:(l.length+d.length)* bytes<=140737488355328) (ay:1<=bytes) (ae:base<=w.heap.size)
  (h: ∀v' w',w'.ownsRow base e 1 v' (l++d).length ((l++d).map (Value.int k))->w.grownBy w' v.ownBlock->(v'.ownBlock=v.ownBlock∨v'.ownBlock=ϊ w.heap.size)->C w'/\K (a.put o.dst v') w'):jt P C o a w K:=by
 have ad:l.length+d.length<=maxLen:=by
  have:=J7 (l.length+d.length) (show 0<bytes by omega);unfold maxLen;omega
 obtain⟨aE,ax,O,az,aj,aA,aB,aC⟩:=ai;cases O
 obtain⟨v',w',an,aa,ab,_,ac⟩:=run_append_own_at (P:=P) w base t o.type e i z 1 bytes aq hi av ap af aw ζ v l.length (l.map (Value.int k)) am G d.length cap (d.map (Value.int k)) η (by
  intro j u I;rw[I3] at I;obtain⟨y,J,rfl⟩:=N4.1 I;obtain⟨ak,aD⟩:=ϟ.1 J;obtain⟨b,N,H,_,ah⟩:=aj j ak;simp only[N5] at H;subst H;have U:(⟨b,N,ϋ⟩:Addr).add j=⟨b,N+j,ϋ⟩:=by
   unfold Addr.add;split
   ·rename_i Y;subst Y;rfl
   ·rfl
  rw[U,ah,ϑ,J];rfl) (by
  intro u ar;obtain⟨y,_,rfl⟩:=C1.1 ar
  rfl) ad ag ae
 unfold jt execOp;simp only[al,resolve,invoke,builtin,Sem.run_bind,Sem.run_pure,Result.andThen_ok,K2,ϡ,C8,ao,au,an];exact h v' w' (by simpa using aa) ab ac
def ZM {P:Program} {o:Oper} {C:World->Prop} (s x:Operand) (t:TypeId)
  (J:o.op= .call {callee:= .builtin .append,args:= #[s,x],argTypes:= #[t,t]})
  (base:Nat) (e:TypeId) (i:TypeInfo) (z:Value) (bytes:Nat) (O:P.underlying t=ϊ (.slice e)) (hi:P.info? e=ϊ i) (al:i.zero=ϊ z)
  (ak:i.size=1) (ab:i.bytes=bytes) (am:z.cells.size=1)
  (v:Value) (k:IntKind) (l:List Int) (N:a.eval s=v) (G:w.ownsRow base e 1 v l.length (l.map (Value.int k)))
  (U:Value) (d:List Int) (H:a.eval x=U) (I:SlI k w U d)
  (ae:(l.length+d.length)* bytes<=140737488355328) (ac:1<=bytes) (aa:base<=w.heap.size)
  (h: ∀v' w',w'.ownsRow base e 1 v' (l++d).length ((l++d).map (Value.int k))->w.grownBy w' v.ownBlock->(v'.ownBlock=v.ownBlock∨v'.ownBlock=ϊ w.heap.size)->C w'/\K (a.put o.dst v') w'):jt P C o a w K:=by
 have ag:=I;obtain⟨an,cap,rfl,ao,ap,aq,ar,ah⟩:=I;cases an with
 | some ad=>exact ZN s x t J base e i z bytes O hi al ak ab am v k l N G ad cap d H ag ae ac aa h
 | none=>
  have Y:cap=0:=ah rfl;subst Y;have ai:d=[]:=Ϥ τ;subst ai;have aj:=run_append_owned_none (P:=P) (w:=w) base t o.type e i 1 O hi v l.length (l.map (Value.int k)) G;have af:=h v w (by simpa using G) ⟨rfl,rfl,rfl,ϕ _,λ_ _ _=>rfl⟩ (ϐ rfl);simp only[ϱ] at H;unfold jt execOp;simp only[J,resolve,invoke,builtin,Sem.run_bind,Sem.run_pure,Result.andThen_ok,K2,ϡ,C8,N,H,aj];exact af
inductive Tr where
 | done
 | op (k:Nat) (b:Bool) (t:Tr)
 | br (ks:List Nat) (f:Nat->Tr)
def Tr.has:Nat->Tr->Bool
 | 0,.done=>ό
 | n+1,.op _ _ t=>t.has n
 | n+1,.br ks f=>ks.all λk=>(f k).has n
 | _,_=>ύ
section
variable {P:Program} {ops:Array Oper} {md:Region.Mode} {C:World->Prop}
def trB (md:Region.Mode) (ops:Array Oper) (T:Nat):Tr->Array Bool->Bool
 | .done,listed=>(Region.ready md ops listed).isEmpty
 | .op k ό t,listed=>decide (k<ops.size)&&decide (Region.ready md ops listed=[k])&&trB md ops T t (listed.setIfInBounds k ό)
 | .op k ύ t,listed=>decide (k<ops.size)&&(Region.ready md ops listed).contains k&&Region.free md ops listed k&&((ops[k]?).map (XV ·.op)).getD ύ&&Gw md ops T k&&trB md ops T t (listed.setIfInBounds k ό)
 | .br ks f,listed=> !ks.isEmpty&&decide (Region.ready md ops listed=ks)&&ks.all λk=>decide (k<ops.size)&&trB md ops T (f k) (listed.setIfInBounds k ό)
def zG (P:Program) (ops:Array Oper) (T:Nat) (C:World->Prop) (Q:Act->World->Prop):Tr->Act->World->Prop
 | .done,a,w=>Q a w
 | .op k ό t,a,w=>if Region.wanted (ops[k]?.getD default) (yielded ops a.tmps) then jt P (Dem T C k) (ops[k]?.getD default) a w (zG P ops T C Q t) else C w/\zG P ops T C Q t (a.put (ops[k]?.getD default).dst undef) w
 | .op k ύ t,a,w=>C w/\if Region.wanted (ops[k]?.getD default) (yielded ops a.tmps) then (ops[k]?.getD default).quiet P a C (λa'=>zG P ops T C Q t a' w) else zG P ops T C Q t (a.put (ops[k]?.getD default).dst undef) w
 | .br ks f,a,w=> ∀k∈ks,if Region.wanted (ops[k]?.getD default) (yielded ops a.tmps) then jt P (Dem T C k) (ops[k]?.getD default) a w (zG P ops T C Q (f k)) else C w/\zG P ops T C Q (f k) (a.put (ops[k]?.getD default).dst undef) w
def vA {T:Nat} {Q:Act->World->Prop} (N:Region.noSelect ops=ό): ∀(n:Nat) (t:Tr) (listed:Array Bool) (a:Act) (w:World),t.has n=ό->
  trB md ops T t listed=ό->zG P ops T C Q t a w->Jg P md ops T C Q n listed a w
 | 0,.done,_,_,_,_,hB,h=>⟨by simpa [trB] using hB,h⟩
 | 0,.op ..,_,_,_,hh,_,_=>by simp[Tr.has] at hh
 | 0,.br ..,_,_,_,hh,_,_=>by simp[Tr.has] at hh
 | _+1,.done,_,_,_,hh,_,_=>by simp[Tr.has] at hh
 | n+1,.op k ό t,listed,a,w,hh,hB,h=>by
  simp only[trB,Φ,C2] at hB;obtain⟨⟨O,J⟩,I⟩:=hB;have H:ops[k]? =ϊ (ops[k]?.getD default):=by simp[O]
  generalize ops[k]?.getD default=o at H;refine⟨λd=>(by rw[J] at d;cases d),λi hi=> ?_⟩;rw[J] at hi;obtain rfl:i=k:=by simpa using hi
  unfold yM;unfold zG at h;simp only[H,ϩ] at h ⊢;split
  ·rename_i G;rw[ϒ G] at h;exact wW (λa' w' _ U=>vA N n t _ a' w' hh I U) h
  ·rename_i G;rw[ώ G] at h;exact⟨yY h.1,vA N n t _ _ w hh I h.2⟩
 | n+1,.op k ύ t,listed,a,w,hh,hB,h=>by
  simp only[trB,Φ,C2] at hB;obtain⟨⟨⟨⟨⟨O,J⟩,ad⟩,Y⟩,af⟩,I⟩:=hB;have H:ops[k]? =ϊ (ops[k]?.getD default):=by simp[O]
  generalize ops[k]?.getD default=o at H;rw[H] at Y;simp only[D0,ϩ] at Y;unfold zG at h;simp only[H,ϩ] at h;obtain⟨ab,h⟩:=h;obtain⟨v,ag,ac⟩: ∃v,Qj P ops C o v a/\zG P ops T C Q t (a.put o.dst v) w:=by
   by_cases G:Region.wanted o (yielded ops a.tmps)=ό
   ·rw[ϒ G] at h;exact gA Y G h
   ·rw[ώ G] at h;exact⟨undef,.inr ⟨by simpa using G,rfl⟩,h⟩
  exact QQ H (Region.noSelect_spec N) (Zr af) n listed a w ab (Region.free_spec H ad) (by simpa using J) ag
   (vA N n t _ _ w hh I ac)
 | n+1,.br ks f,listed,a,w,hh,hB,h=>by
  simp only[trB,Φ,C2,I9] at hB;obtain⟨⟨ae,J⟩,I⟩:=hB;simp only[Tr.has,I9] at hh;refine⟨λd=>(by rw[J] at d;subst d;simp at ae),λi hi=> ?_⟩
  ·rw[J] at hi;have O:=(I i hi).1;have aa:=(I i hi).2;have d:=h i hi;have H:ops[i]? =ϊ (ops[i]?.getD default):=by simp[O]
   generalize ops[i]?.getD default=o at H;unfold yM;simp only[H,ϩ] at d ⊢;split
   ·rename_i G;rw[ϒ G] at d;exact wW (λa' w' _ U=>vA N n (f i) _ a' w' (hh i hi) aa U) d
   ·rename_i G;rw[ώ G] at d;exact⟨yY d.1,vA N n (f i) _ _ w (hh i hi) aa d.2⟩
end
section
variable {P:Program} {C:World->Prop} {l:List Oper} {T:Nat} {Q:Act->World->Prop} {k:Nat} {b:Bool} {o:Oper} {t:Tr} {a:Act} {w:World}
def zD (h:Q a w):zG P l.toArray T C Q .done a w:=h
def qK (G:l[k]? =ϊ o) (H:Region.wanted o (yielded l.toArray a.tmps)=ό) (d:C w) (h: ∀K:Act->Prop,(∀a,zG P l.toArray T C Q t a w->K a)->o.quiet P a C K):zG P l.toArray T C Q (.op k ύ t) a w:=by
 unfold zG;simp only[A6,G,ϩ];rw[ϒ H];exact⟨d,h _ (λa h=>h)⟩
def jl (G:l[k]? =ϊ o) (H:Region.wanted o (yielded l.toArray a.tmps)=ύ) (d:C w) (h:zG P l.toArray T C Q t (a.put o.dst undef) w):zG P l.toArray T C Q (.op k b t) a w:=by
 cases b
 all_goals
  unfold zG;simp only[A6,G,ϩ];rw[ώ (by rw[H];exact Bool.false_ne_true)];exact⟨d,h⟩
def qV (d:l[k]? =ϊ o) (G:Region.wanted o (yielded l.toArray a.tmps)=ό) (h: ∀K:Act->World->Prop,(∀a w,zG P l.toArray T C Q t a w->K a w)->jt P C o a w K):zG P l.toArray T C Q (.op k ό t) a w:=by
 unfold zG;simp only[A6,d,ϩ];rw[ϒ G];exact zL (λ_ h=>yY h) (h _ λa w h=>h)
def gK {i j:Nat} {t':Tr} (H:i≠j) (hi:zG P l.toArray T C Q (.op i ό t) a w) (G:zG P l.toArray T C Q (.op j ό t') a w):zG P l.toArray T C Q (.br [i,j] λk=>if k=i then t else t') a w:=by
 unfold zG at *;intro k d;simp at d;rcases d with rfl | rfl
 ·simpa using hi
 ·have: ¬k=i:=λe=>H e.symm
  simpa [this] using G
end
def QP {P:Program} {id:Nat} {l:List Oper} {C:World->Prop} (T:Nat) (t:Tr) (N:P.follows .mixedOrders=ό)
  (d:(Region.noSelect l.toArray&&trB .any l.toArray T t (Array.replicate l.length ύ)&&t.has l.length)=ό)
  (h:zG P l.toArray T C (Q .normal) t a (w.drewN 1)):(Code.region id l.toArray ό).wp P Q a w:=by
 simp only[Φ] at d;obtain⟨⟨G,H⟩,I⟩:=d;refine wp_region_any N (gM (T:=T) (C:=C) (Q:=Q .normal) (λ_ _ h=>h) _ _ _ _ ?_);have J:l.toArray.size=l.length:=by simp
 rw[J];exact vA G _ t _ a _ I H h
def ye {P:Program} {id:Nat} {l:List Oper} (d:World) (T:Nat) (t:Tr) (H:P.follows .mixedOrders=ό)
  (G:(Region.noSelect l.toArray&&trB .any l.toArray T t (Array.replicate l.length ύ)&&t.has l.length)=ό)
  (h:zG P l.toArray T (λw'=> ∃x:qu d,w'=x.w') (Q .normal) t a (w.drewN 1)):(Code.region id l.toArray ό).wp P Q a w:=
 QP (C:=λw'=> ∃x:qu d,w'=x.w') T t H G h
def gm {P:Program} {id:Nat} {l:List Oper} (S:Nat->Prop) (d:World) (T:Nat) (t:Tr) (H:P.follows .mixedOrders=ό)
  (G:(Region.noSelect l.toArray&&trB .any l.toArray T t (Array.replicate l.length ύ)&&t.has l.length)=ό)
  (h:zG P l.toArray T (λw'=> ∃x:qC S d,w'=x.w') (Q .normal) t a (w.drewN 1)):(Code.region id l.toArray ό).wp P Q a w:=
 QP (C:=λw'=> ∃x:qC S d,w'=x.w') T t H G h
section
open Go.ChangeShapes Go.WideShapes Go.ChangeAt Go.RowKit
def um {a:Addr} (h:w.cell? a=ϊ v):a.spot=ϋ/\a.block<w.heap.size:=by
 unfold World.cell? at h;split at h
 ·rename_i c t f d;split at h
  ·cases h
  ·rename_i G;refine⟨by simpa using G, ?_⟩;rcases X8 a.block w.heap.size with h' | h'
   ·exact h'
   ·simp[Array.getElem?_eq_none h'] at d
 ·cases h
def Byt.of_wf (h: ∀n∈l,(Lit.int .u8 n).wf=ό):Byt l:=by
 intro i;rw[ϑ];by_cases hi:i<l.length
 ·rw[ϖ hi,ϩ];exact bounds_u8 (h _ (Ϣ hi))
 ·rw[G4 τ];simp
end
section
open Go.ChangeShapes Go.WideShapes Go.Deep
abbrev qO (α:Type):=World->List Value->α->Prop
def jI (P:Program) (t:TypeId) (R:qO α):Prop:=
 ∀(H:Type) (enc:TypeId×Value->H) (w:World) (base:Nat) (spare:Nat->Bool) (held:Bool) (fuel:Nat) (cs:List Value) (x:DataW H×List MemPlace),
  DataW.trod enc P w base spare held fuel t cs=ϊ x-> ∃y,R w cs y
def gj (R:qO α):Prop:= ∀(w w':World) (cs:List Value) (y:α),qh w w'->R w cs y->R w' cs y
def vH (k:IntKind):qO Int:=λ_ cs n=>cs=[.int k n]/\(Lit.int k n).wf=ό
def BE:qO Bool:=λ_ cs b=>cs=[.bool b]
def PK:qO Unit:=λ_ cs _=>cs=[]
def zz (n:Nat) (R:qO α) (Q:qO β):qO (α×β):=λw cs y=>R w (cs.take n) y.1/\Q w (cs.drop n) y.2
def NV (m n:Nat) (R:qO α):qO (List α):=λw cs L=>cs.length=m* n/\L.length=m/\ ∀i (hi:i<L.length),R w ((cs.drop (i* n)).take n) L[i]
def SlP (n:Nat) (R:qO α) (w:World) (v:Value) (L:List α):Prop:=
 ∃oa cap,v= .slice oa L.length cap/\(L.length:Int)<=9223372036854775807/\
  (∀i (hi:i<L.length),∃b off cs,oa=ϊ ⟨b,off,ϋ⟩/\b<w.heap.size/\cs.length=n/\(∀j,j<n->w.cell? ⟨b,off+i* n+j,ϋ⟩=cs[j]?)/\R w cs L[i])/\
  L.length<=cap/\cap<=maxLen/\(oa=ϋ->cap=0)
def RSl (n:Nat) (R:qO α):qO (List α):=λw cs L=> ∃v,cs=[v]/\SlP n R w v L
def SlP.keep {R:qO α} {L:List α} (N:gj R) (h:SlP n R w v L) (m:qh w w'):SlP n R w' v L:=by
 obtain⟨ab,cap,G,H,I,J⟩:=h;refine⟨ab,cap,G,H,λi hi=> ?_,J⟩;obtain⟨b,ac,cs,e,d,Y,O,aa⟩:=I i hi;exact⟨b,ac,cs,e,ϗ d m.size,Y,λj U=>by rw[m.cells b _ d];exact O j U,N _ _ _ _ m aa⟩
section
variable {P:Program} {t e:TypeId}
def jI.int (d:P.underlying t=ϊ (.int k)):jI P t (vH k):=λ_ _ _ _ _ _ _ _ _ h=>by
 obtain⟨n,rfl,_,G⟩:=DataW.trod_int d h;exact⟨n,rfl,G⟩
def jI.bool (d:P.underlying t=ϊ .bool):jI P t BE:=λ_ _ _ _ _ _ _ _ _ h=>by
 obtain⟨n,rfl,_⟩:=DataW.trod_bool d h;exact⟨n,rfl⟩
def SlP.nil (n:Nat) (R:qO α) (w:World):SlP n R w (δ ϋ 0 0) []:=⟨ϋ,0,rfl,η,λi hi=>by simp at hi,η,by unfold maxLen;omega,λ_=>rfl⟩
def wA {p:Nat->α->Prop}: ∀(n:Nat),(∀i,i<n-> ∃y,p i y)-> ∃L:List α,L.length=n/\ ∀i (hi:i<L.length),p i L[i]
 | 0,_=>⟨[],rfl,λi hi=>by simp at hi⟩
 | n+1,h=>by
  obtain⟨L,d,G⟩:=wA n (λi hi=>h i τ);obtain⟨y,H⟩:=h n τ;refine⟨L++[y],by simp[d],λi hi=> ?_⟩;simp at hi;by_cases e:i<L.length
  ·rw[N1 e];exact G i e
  ·obtain rfl:i=L.length:=by omega
   simp[d,H]
def jI.sl {R:qO α} (au:P.underlying t=ϊ (.slice e)) (ao:P.cellsOf e=n) (aG:1<=n) (h:jI P e R):jI P t (RSl n R):=λad ae w base az aj aC cs x aw=>by
 rcases open_slice au aw with ⟨rfl,_⟩ | ⟨a,ac,cap,m,ay,D,aA,rfl,aD,am,Y,an,_,hi⟩
 ·exact⟨[],_,rfl,SlP.nil n R w⟩
 ·have aF:ac<=m:=by rw[an];split<;>omega
  rw[ao] at hi
  obtain⟨L,H,aa⟩:=wA (p:=λi y=> ∃cs,w.cells? base (a.add (i* n)) n=ϊ cs/\R w cs y) ac (λi U=>by
   obtain⟨cs',I,av⟩:=hi i τ;obtain⟨y,ax⟩:=h ad ae w base az aj ay cs' _ av
   exact⟨y,cs',I,ax⟩)
  refine⟨L,_,rfl,ϊ a,cap,by rw[H],by rw[H];unfold maxLen at Y;omega,λi U=> ?_,by rw[H];exact am,Y,λh=>by cases h⟩;obtain⟨cs',I,ap⟩:=aa i U;obtain⟨_,ai,O⟩:=World.cells?_some I;have G:=O 0 τ;rw[ϖ τ] at G;have aq:=um G;obtain⟨b,d,sp⟩:=a;have N: ∀k,(⟨b,d,sp⟩:Addr).add k=⟨b,d+k,if k=0 then sp else ϋ⟩:=by
   intro k;unfold Addr.add;split
   ·rename_i al;subst al;rfl
   ·rfl
  have ag:b<w.heap.size:=by
   have:=aq.2;rw[N] at this;unfold Addr.add at this;exact this
  have ar:sp=ϋ:=by
   obtain⟨aB,ah,_⟩:=aa 0 τ;obtain⟨_,aE,af⟩:=World.cells?_some ah;have J:=af 0 τ;rw[ϖ τ] at J;have ab:=(um J).1;simp[Addr.add] at ab;exact ab
  subst ar;refine⟨b,d,cs',rfl,ag,ai,λj ak=> ?_,ap⟩;rw[<-O j ak,N];have:(⟨b,d+i* n,if i* n=0 then ϋ else ϋ⟩:Addr)=⟨b,d+i* n,ϋ⟩:=by split<;>rfl
  rw[this];unfold Addr.add;split
  ·rename_i G;subst G;rfl
  ·rfl
def jR (P:Program) (fs:List Field) (off:Nat) (R:qO α):Prop:=
 ∀(H:Type) (enc:TypeId×Value->H) (w:World) (base:Nat) (spare:Nat->Bool) (held:Bool) (n total:Nat) (cs:List Value),cs.length=total->total=off+(fs.map λf=>P.cellsOf f.type).sum->
  (∀f∈fs,∃x,DataW.trod enc P w base spare held n f.type ((cs.drop f.offset).take (P.cellsOf f.type))=ϊ x)-> ∃y,R w (cs.drop off) y
def jR.nil {G:Nat}:jR P [] G PK:=λ_ _ _ _ _ _ _ _ cs H d _=>⟨(),by
 simp at d
 exact I8 τ⟩
def jR.cons {f:Field} {I:List Field} {d:Nat} {R:qO α} {Q:qO β} (ac:f.offset=d) (N:P.cellsOf f.type=n) (h:jI P f.type R) (k:jR P I (d+n) Q):jR P (f::I) d (zz n R Q):=λG H w base Y J m ag cs ab ad O=>by
 obtain⟨x,ae⟩:=O f η;obtain⟨y,U⟩:=h G H w base Y J m _ x ae;obtain⟨z,af⟩:=k G H w base Y J m ag cs ab (by rw[ad];simp[N];omega) (λg aa=>O g (by simp[aa]));rw[ac,N] at U;exact⟨(y,z),U,by rw[U2];exact af⟩
def jI.struct {d:Array Field} {R:qO α} (aa:P.underlying t=ϊ (.struct d)) (I:P.cellsOf t=(d.toList.map λf=>P.cellsOf f.type).sum) (h:jR P d.toList 0 R):jI P t R:=λG H w base ad J ae cs x ab=>by
 obtain⟨xs,n,_,_,Y,af,N⟩:=DataW.trod_struct aa ab
 obtain⟨y,ac⟩:=h G H w base ad J n _ cs rfl (by rw[Y,I];omega) (λf O=>by
  obtain⟨i,hi,rfl⟩:=ε.1 O;have U:i<d.size:=by simpa using hi
  have:=N i d[i] (by simp[U]);rw[ϖ τ] at this
  exact⟨_,by simpa using this⟩)
 exact⟨y,by simpa using ac⟩
def jI.arr {m:Nat} {R:qO α} (aa:P.underlying t=ϊ (.array m e)) (U:P.cellsOf e=n) (J:P.cellsOf t=m* n) (h:jI P e R):jI P t (NV m n R):=λG H w base ad N ae cs x ab=>by
 obtain⟨xs,ac,_,_,O,af,d⟩:=DataW.trod_array aa ab;rw[U] at d
 obtain⟨L,I,Y⟩:=wA (p:=λi y=>R w ((cs.drop (i* n)).take n) y) m (λi hi=>by
  have:=d i hi;rw[ϖ τ] at this
  exact h G H w base ad N ac _ _ this)
 exact⟨L,by rw[O,J],I,Y⟩
end
def SlP.ints (h:SlP 1 (vH k) w v L):SlI k w v L/\ ∀n∈L,(Lit.int k n).wf=ό:=by
 obtain⟨ac,cap,N,O,d,U⟩:=h;refine⟨⟨ac,cap,N,O,λi hi=> ?_,U⟩,λn aa=> ?_⟩
 ·obtain⟨b,J,cs,e,G,Y,H,I,_⟩:=d i hi;refine⟨b,J,e,G, ?_⟩;have:=H 0 τ;rw[I] at this
  simpa [hi] using this
 ·obtain⟨i,hi,rfl⟩:=ε.1 aa;obtain⟨b,J,cs,e,G,Y,H,I,ab⟩:=d i hi;exact ab
end
def jv (R:qO α) (D:Nat->Prop) (w:World) (cs:List Value) (y:α):Prop:= ∀w',qk D w w'->R w' cs y
section
variable {α:Type} {R:qO α} {D D':Nat->Prop} {w w':World} {cs:List Value} {y:α}
def jv.read (h:jv R D w cs y):R w cs y:=h w (qk.refl D w)
def jv.step (h:jv R D w cs y) (a:qk D w w'):jv R D w' cs y:=λ_ b=>h _ (a.trans b)
def jv.on (h:jv R D w cs y) (a:qh w w'):jv R D w' cs y:=h.step (qk.of_more a)
def jv.other (h:jv R D w cs y) (k: ∀b,D' b->D b∨w.heap.size<=b):jv R D' w cs y:=λw' a=>
 h w' ⟨a.os,a.tape,a.output,a.size,λb d G=>a.block b d (λx=>by
  rcases k b x with e | e
  ·exact G e
  ·omega)⟩
def jv.old (d:gj R) (h:R w cs y) (k: ∀b,D b->w.heap.size<=b):jv R D w cs y:=λw' a=>
 d w w' cs y ⟨a.os,a.tape,a.output,a.size,λb G=>a.block b G (λx=>by have:=k b x;omega)⟩ h
end
def SlI.off (h:SlI k w v l) (J: ∀b,v.ownBlock=ϊ b-> ¬D b) (a:qk D w w'):SlI k w' v l:=by
 obtain⟨O,cap,rfl,G,H,I⟩:=h;refine⟨O,cap,rfl,G,λi hi=> ?_,I⟩;obtain⟨b,off,rfl,d,N⟩:=H i hi;exact⟨b,off,rfl,ϗ d a.size,by rw[a.cells b _ d (J b rfl)];exact N⟩
def SlP.of_ints (h:SlI k w v l) (O: ∀n∈l,(Lit.int k n).wf=ό):SlP 1 (vH k) w v l:=by
 obtain⟨U,cap,G,H,I,J⟩:=h;refine⟨U,cap,G,H,λi hi=> ?_,J⟩;obtain⟨b,Y,e,N,d⟩:=I i hi;refine⟨b,Y,[.int k l[i]],e,N,rfl,λj aa=> ?_,rfl,O _ (Ϣ hi)⟩;obtain rfl:j=0:=by omega
 simp at d ⊢;rw[d];simp[hi]
structure jd {α:Type} (n:Nat) (R:qO α) (D:Nat->Prop) (w:World) (base e:Nat) (v:Value) (L:List α):Prop where
 row: ∃xs,w.ownsRow base e n v L.length xs/\ ∀i (hi:i<L.length),jv R (λk=>D k∨v.ownBlock=ϊ k) w ((xs.drop (i* n)).take n) L[i]
 apart: ∀b,v.ownBlock=ϊ b-> ¬D b
section
variable {α:Type} {n:Nat} {R:qO α} {D:Nat->Prop} {w w':World} {base e:Nat} {v:Value} {L:List α}
def jd.nil (n:Nat) (R:qO α) (D:Nat->Prop) (w:World) (base e:Nat):jd n R D w base e (δ ϋ 0 0) []:=
 ⟨⟨[],World.ownsRow_nil w base e n,λi hi=>by simp at hi⟩,λb h=>by cases h⟩
def jd.step (h:jd n R D w base e v L) (a:qk D w w'):jd n R D w' base e v L:=by
 obtain⟨⟨xs,⟨G,H⟩,I⟩,d⟩:=h;refine⟨⟨xs,⟨G, ?_⟩,λi hi=>(I i hi).step (a.mono λk J=>ϐ J)⟩,d⟩;rcases H with h | ⟨g,cap,cur,e1,hb,hg,rest⟩
 ·exact ϐ h
 ·exact ϓ ⟨g,cap,cur,e1,hb,a.blk hg (d g (by rw[e1];rfl)),rest⟩
def jd.on (h:jd n R D w base e v L) (a:qh w w'):jd n R D w' base e v L:=h.step (qk.of_more a)
def jd.shape (h:jd n R D w base e v L): ∃oa m cap,v= δ oa m cap/\m=L.length/\L.length<=cap:=by
 obtain⟨⟨xs,d,_⟩,_⟩:=h;rcases d.2 with ⟨rfl,e⟩ | ⟨b,cap,cur,rfl,_,_,G,_⟩
 ·exact⟨ϋ,0,0,rfl,τ,τ⟩
 ·exact⟨_,_,cap,rfl,rfl,G⟩
def jd.lt (h:jd n R D w base e v L) (d:v.ownBlock=ϊ b):b<w.heap.size:=by
 obtain⟨⟨xs,H,_⟩,_⟩:=h;rcases H.2 with ⟨rfl,_⟩ | ⟨G,cap,cur,rfl,_,I,_⟩
 ·cases d
 ·obtain rfl:G=b:=by injection d
  exact lt_of_block I
def jd.ge (h:jd n R D w base e v L) (d:v.ownBlock=ϊ b):base<=b:=by
 obtain⟨⟨xs,H,_⟩,_⟩:=h;rcases H.2 with ⟨rfl,_⟩ | ⟨G,cap,cur,rfl,I,_⟩
 ·cases d
 ·obtain rfl:G=b:=by injection d
  exact I
def jd.sl (h:jd n R D w base e v L) (ad:0<n):SlP n R w v L:=by
 obtain⟨⟨xs,⟨I,J⟩,N⟩,_⟩:=h;rcases J with ⟨rfl,H⟩ | ⟨g,cap,cur,rfl,ab,G,Y,d,ac,aa⟩
 ·obtain rfl:L=[]:=Ϥ H;exact SlP.nil n R w
 ·refine⟨_,cap,rfl,by unfold maxLen at d;omega,λi hi=>⟨g,0,_,rfl,lt_of_block G, ?_,λj U=> ?_,(N i hi).read⟩,Y,d,λh=>by cases h⟩
  ·have O:i* n+n<=L.length* n:=by
    have:(i+1)* n<=L.length* n:=A0 n hi;rw[C9,O3] at this;exact this
   rw[ϛ,Ϡ,I];omega
  ·have O:i* n+n<=L.length* n:=by
    have:(i+1)* n<=L.length* n:=A0 n hi;rw[C9,O3] at this;exact this
   rw[E9,cell_of_row w g _ cur e (0,0) G,A8,ϒ U,D4,<-aa,A8,ϒ τ];simp
end
def wE {P:Program} (w:World) (base:Nat) (t aa e:TypeId) (i:TypeInfo) (z:Value) (n bytes:Nat) (aw:P.underlying t=ϊ (.slice e)) (hi:P.info? e=ϊ i) (ay:i.zero=ϊ z)
  (av:i.size=n) (ah:i.bytes=bytes) (az:z.cells.size=n) (ao:0<n)
  {R:qO α} (v:Value) (L:List α) (ar:jd n R D w base e v L)
  (B:Nat) (cs:List Value) (y:α) (am:cs.length=n) (ap: ∀j u,cs[j]? =ϊ u->w.cell? ⟨B,j,ϋ⟩=ϊ u) (ad: ∀u∈cs,u.oneCell'=ό)
  (ax:jv R (λk=>D k∨v.ownBlock=ϊ k) w cs y) (ae: ∀b,D b->b<w.heap.size)
  (aA:1<=bytes) (ai:(L.length+1)* bytes<=140737488355328) (ag:base<=w.heap.size):
  ∃v' w',(Builtin.append_ #[t,t] aa #[v,δ (ϊ ⟨B,0,ϋ⟩) 1 1]).run P w= .ok v' w'/\jd n R D w' base e v' (L++[y])/\w.grownBy w' v.ownBlock/\(v'.ownBlock=v.ownBlock∨v'.ownBlock=ϊ w.heap.size):=by
 obtain⟨⟨xs,N,ak⟩,af⟩:=ar;have an:L.length+1<=maxLen:=by
  have:=J7 (L.length+1) (show 0<bytes by omega);unfold maxLen;omega
 obtain⟨v',w',au,aq,G,_,d⟩:=run_append_own_at (P:=P) w base t aa e i z n bytes aw hi ay av ah az ao v L.length xs N ⟨B,0,ϋ⟩ 1 1 cs (by rw[am,O3]) (by
  intro j u al;have ab:(⟨B,0,ϋ⟩:Addr).add j=⟨B,j,ϋ⟩:=by
   unfold Addr.add;split
   ·rename_i ac;subst ac;rfl
   ·simp
  rw[ab];exact ap j u al) ad an ai ag
 have aj: ∀k (J:k<(L++[y]).length),jv R (λk=>D k∨v.ownBlock=ϊ k) w (((xs++cs).drop (k* n)).take n) (L++[y])[k]:=by
  intro k J;simp at J;by_cases e:k<L.length
  ·have aB:k* n+n<=L.length* n:=by
    have:(k+1)* n<=L.length* n:=A0 n e;rw[C9,O3] at this;exact this
   have aC:=N.1;have O:((xs++cs).drop (k* n)).take n=(xs.drop (k* n)).take n:=by
    rw[G9 τ,I0 (by rw[Ϡ];omega)]
   rw[O,N1 e];exact ak k e
  ·obtain rfl:k=L.length:=by omega
   have O:((xs++cs).drop (L.length* n)).take n=cs:=by
    rw[G9 (by rw[N.1];exact ϕ _),I8 (by rw[N.1];exact ϕ _),I5];exact K5 τ
   rw[O]
   simpa using ax
 refine⟨v',w',au,⟨⟨xs++cs,by simpa using aq,λk J w'' a'=> ?_⟩, ?_⟩,G,d⟩
 ·refine aj k J w'' ⟨a'.os.trans G.os,a'.tape.trans G.tape,a'.output.trans G.output,ϙ G.size a'.size,λb H U=> ?_⟩;rw[a'.block b (ϗ H G.size) ?_]
  ·exact G.block b H (λe=>U (ϓ e.symm))
  ·rintro(I | I)
   ·exact U (ϐ I)
   ·rcases d with d | d
    ·exact U (ϓ (by rw[<-d];exact I))
    ·rw[d] at I;have:w.heap.size=b:=by injection I
     omega
 ·intro b H Y;rcases d with d | d
  ·exact af b (by rw[<-d];exact H) Y
  ·rw[d] at H;have:w.heap.size=b:=by injection H
   have:=ae b Y;omega
def jr {P:Program} (w:World) {o:Oper} (ab:o.guard=ϋ) (s x:Operand) (t:TypeId)
  (af:o.op= .call {callee:= .builtin .append,args:= #[s,x],argTypes:= #[t,t]})
  (base:Nat) (e:TypeId) (i:TypeInfo) (z:Value) (n bytes:Nat) (ak:P.underlying t=ϊ (.slice e)) (hi:P.info? e=ϊ i) (an:i.zero=ϊ z)
  (aj:i.size=n) (U:i.bytes=bytes) (ao:z.cells.size=n) (ad:0<n)
  {R:qO α} (v:Value) (L:List α) (ai:a.eval s=v) (ag:jd n R D w base e v L)
  (B:Nat) (cs:List Value) (y:α) (al:a.eval x= δ (ϊ ⟨B,0,ϋ⟩) 1 1) (ac:cs.length=n) (ae: ∀j u,cs[j]? =ϊ u->w.cell? ⟨B,j,ϋ⟩=ϊ u) (d: ∀u∈cs,u.oneCell'=ό)
  (am:jv R (λk=>D k∨v.ownBlock=ϊ k) w cs y) (J: ∀b,D b->b<w.heap.size)
  (Y:1<=bytes) (aa:(L.length+1)* bytes<=140737488355328) (O:base<=w.heap.size)
  (h: ∀v' w',jd n R D w' base e v' (L++[y])->w.grownBy w' v.ownBlock->(v'.ownBlock=v.ownBlock∨v'.ownBlock=ϊ w.heap.size)->wpList P ops Q rest (a.put o.dst v') w'):wpList P ops Q (o::rest) a w:=by
 refine wpList_plain ab λK N=> ?_
 obtain⟨v',w',ah,G,H,I⟩:=wE (P:=P) w base t o.type e i z n bytes ak hi an aj U ao ad v L ag B cs y ac ae d am J Y aa O;unfold Oper.wp execOp;simp only[af,resolve,invoke,builtin,Sem.run_bind,Sem.run_pure,Result.andThen_ok,K2,ϡ,C8,ai,al,ah];exact N _ _ (h v' w' G H I)
def ym {P:Program} {o:Oper} {C:World->Prop} (s x:Operand) (t:TypeId)
  (ad:o.op= .call {callee:= .builtin .append,args:= #[s,x],argTypes:= #[t,t]})
  (base:Nat) (e:TypeId) (i:TypeInfo) (z:Value) (n bytes:Nat) (ai:P.underlying t=ϊ (.slice e)) (hi:P.info? e=ϊ i) (al:i.zero=ϊ z)
  (ah:i.size=n) (O:i.bytes=bytes) (am:z.cells.size=n) (ab:0<n)
  {R:qO α} (v:Value) (L:List α) (ag:a.eval s=v) (ae:jd n R D w base e v L)
  (B:Nat) (cs:List Value) (y:α) (aj:a.eval x= δ (ϊ ⟨B,0,ϋ⟩) 1 1) (aa:cs.length=n) (ac: ∀j u,cs[j]? =ϊ u->w.cell? ⟨B,j,ϋ⟩=ϊ u) (d: ∀u∈cs,u.oneCell'=ό)
  (ak:jv R (λk=>D k∨v.ownBlock=ϊ k) w cs y) (J: ∀b,D b->b<w.heap.size)
  (U:1<=bytes) (Y:(L.length+1)* bytes<=140737488355328) (N:base<=w.heap.size)
  (h: ∀v' w',jd n R D w' base e v' (L++[y])->w.grownBy w' v.ownBlock->(v'.ownBlock=v.ownBlock∨v'.ownBlock=ϊ w.heap.size)->C w'/\K (a.put o.dst v') w'):jt P C o a w K:=by
 obtain⟨v',w',af,G,H,I⟩:=wE (P:=P) w base t o.type e i z n bytes ai hi al ah O am ab v L ae B cs y aa ac d ak J U Y N;unfold jt execOp;simp only[ad,resolve,invoke,builtin,Sem.run_bind,Sem.run_pure,Result.andThen_ok,K2,ϡ,C8,ag,aj,af];exact h v' w' G H I
section
open Go.RowKit Go.ChangeShapes
structure PkS (w:World) (vs ve vp:Value) (p:Pk):Prop where
 s:SlI .u32 w vs p.ss
 e:SlI .u8 w ve p.ex
 l:SlI .u8 w vp p.pl
def PkS.keep {G d vp:Value} (h:PkS w G d vp p) (m:qh w w'):PkS w' G d vp p:=⟨h.s.keep m,h.e.keep m,h.l.keep m⟩
structure gG (p:Pk):Prop where
 s:p.ss.length<=1000000
 e:p.ex.length<=1000000
 l:p.pl.length<=1000000
def AO (p:Pk) (H G vp:Value) (w:World) (h:PkS w H G vp p) (I:gG p):
  Calls prog 154 #[(Γq p H G vp)] w λe w'=>e= .returned (ι (uO p))/\qh w w':=by
 obtain⟨⟨os,N,rfl,_⟩,⟨ab,ke,rfl,_⟩,⟨ac,J,rfl,_⟩⟩:=h;obtain⟨O,U,Y⟩:=I;have d:uO p=12+4* (p.ss.length:Int)+(p.pl.length:Int)+if p.has then 4+(p.ex.length:Int) else 0:=rfl
 rw[d];clear d;obtain⟨aa,ae,sq,st,sc,ss,has,ad,ex,pl⟩:=p;simp only at *;generalize ss.length=a at *;generalize ex.length=b at *;generalize pl.length=c at *;cases has with
 | true=>
  go_enter func154,ntmps154
  go_wp2;go_ret;exact⟨zn (by simp only[Ψ];try omega),qh.alloc _ _⟩
 | false=>
  go_enter func154,ntmps154
  go_wp2;go_ret;exact⟨zn (by simp only[Ϭ,C4];try omega),qh.alloc _ _⟩
def gX (p:Pk) (ag af vp:Value) (w:World) (h:PkS w ag af vp p) (aj:gG p):
  Calls prog 92 #[(Γq p ag af vp)] w λe w'=>e= .returned (μ (jD p))/\qh w w':=by
 have Y:=κ h;have I:=jZ p;have aa:=κ (λw' al=>AO p ag af vp w' al aj);obtain⟨⟨os,ar,rfl,_⟩,⟨ax,ke,rfl,an⟩,⟨ay,aq,rfl,_⟩⟩:=h;clear an;obtain⟨au,d,av⟩:=aj;obtain⟨ak,ae⟩:=ν (uO p);rw[ae] at I;have ab:=κ ae;clear ae;obtain⟨R,ah⟩:=ν (jD p);rw[ah] at I ⊢;clear ah;obtain⟨aw,ao,sq,st,sc,ss,ac,U,N,pl⟩:=p;simp only at *;have ai:N=[]↔N.length=0:=List.length_eq_zero_iff.symm;rw[ai] at I;clear ai;by_cases h1:ao<=127
 ·by_cases h2:(ss.length:Int)<=15
  ·by_cases H:ac=ύ/\ ¬(U=0)
   ·obtain⟨rfl,H⟩:=H
    have J:Hid (R=ύ):=κ (by
     cases R with
     | false=>rfl
     | true=>exact ϧ ((I.1 rfl).2.2.1 rfl).1 H)
    have ad:(U != 0)=ό:=by simpa using H
    clear I H
    go_enter func92,ntmps92
    go_wp2_with (go_at_call 154;(go_call aa.o _ (Y.o.keep Z0) as e w2 ⟨rfl,d⟩;rw[ab.o];have G:=κ d;clear d))
    go_ret;exact⟨by rw[J.o];first | rfl | (simp;omega),by first | exact qh.alloc _ _ | exact Z0.trans G.o⟩
   ·by_cases O:ac=ύ/\ ¬(N.length=0)
    ·obtain⟨rfl,O⟩:=O
     have J:Hid (R=ύ):=κ (by
      cases R with
      | false=>rfl
      | true=>exact ϧ ((I.1 rfl).2.2.1 rfl).2 O)
     obtain rfl:U=0:=by
      by_cases e:U=0
      ·exact e
      ·exact ϧ ⟨rfl,e⟩ H
     have ad:(0:Int)<(N.length:Int):=by omega
     clear I H O
     go_enter func92,ntmps92
     go_wp2_with (go_at_call 154;(go_call aa.o _ (Y.o.keep Z0) as e w2 ⟨rfl,d⟩;rw[ab.o];have G:=κ d;clear d))
     go_ret;exact⟨by rw[J.o];first | rfl | (simp;omega),by first | exact qh.alloc _ _ | exact Z0.trans G.o⟩
    ·by_cases h5:(N.length:Int)%4=0
     ·have am:((N.length:Int)).tmod 4=0:=by rw[D6 τ];exact h5
      by_cases h6:ak<=200
      ·have J:Hid (R=ό):=κ (I.2 ⟨h1,h2,λe=>⟨by
        by_cases z:U=0
        ·exact z
        ·exact ϧ ⟨e,z⟩ H,by
        by_cases z:N.length=0
        ·exact z
        ·exact ϧ ⟨e,z⟩ O⟩,h5,h6⟩)
       clear I h5;cases ac with
       | true=>
        clear H O
        go_enter func92,ntmps92
        go_wp2_with (go_at_call 154;(go_call aa.o _ (Y.o.keep Z0) as e w2 ⟨rfl,d⟩;rw[ab.o];have G:=κ d;clear d))
        go_ret;exact⟨by rw[J.o];first | rfl | (simp;omega),by first | exact qh.alloc _ _ | exact Z0.trans G.o⟩
       | false=>
        obtain rfl:U=0:=by
         by_cases e:U=0
         ·exact e
         ·exact ϧ ⟨rfl,e⟩ H
        have ad: ¬(0:Int)<(N.length:Int):=by
         by_cases e:N.length=0
         ·omega
         ·exact ϧ ⟨rfl,e⟩ O
        clear H O
        go_enter func92,ntmps92
        go_wp2_with (go_at_call 154;(go_call aa.o _ (Y.o.keep Z0) as e w2 ⟨rfl,d⟩;rw[ab.o];have G:=κ d;clear d))
        go_ret;exact⟨by rw[J.o];first | rfl | (simp;omega),by first | exact qh.alloc _ _ | exact Z0.trans G.o⟩
      ·have J:Hid (R=ύ):=κ (by
        cases R with
        | false=>rfl
        | true=>exact ϧ (I.1 rfl).2.2.2.2 h6)
       clear I h5;cases ac with
       | true=>
        clear H O
        go_enter func92,ntmps92
        go_wp2_with (go_at_call 154;(go_call aa.o _ (Y.o.keep Z0) as e w2 ⟨rfl,d⟩;rw[ab.o];have G:=κ d;clear d))
        go_ret;exact⟨by rw[J.o];first | rfl | (simp;omega),by first | exact qh.alloc _ _ | exact Z0.trans G.o⟩
       | false=>
        obtain rfl:U=0:=by
         by_cases e:U=0
         ·exact e
         ·exact ϧ ⟨rfl,e⟩ H
        have ad: ¬(0:Int)<(N.length:Int):=by
         by_cases e:N.length=0
         ·omega
         ·exact ϧ ⟨rfl,e⟩ O
        clear H O
        go_enter func92,ntmps92
        go_wp2_with (go_at_call 154;(go_call aa.o _ (Y.o.keep Z0) as e w2 ⟨rfl,d⟩;rw[ab.o];have G:=κ d;clear d))
        go_ret;exact⟨by rw[J.o];first | rfl | (simp;omega),by first | exact qh.alloc _ _ | exact Z0.trans G.o⟩
     ·have am:(((N.length:Int)).tmod 4==0)=ύ:=by
       rw[beq_eq_false_iff_ne,D6 τ];exact h5
      have ap:((N.length:Int)%4==0)=ύ:=by rw[beq_eq_false_iff_ne];exact h5
      have J:Hid (R=ύ):=κ (by
       cases R with
       | false=>rfl
       | true=>exact ϧ (I.1 rfl).2.2.2.1 h5)
      clear I h5;cases ac with
      | true=>
       clear H O
       go_enter func92,ntmps92
       go_wp2_with (go_at_call 154;(go_call aa.o _ (Y.o.keep Z0) as e w2 ⟨rfl,d⟩;rw[ab.o];have G:=κ d;clear d))
       go_ret;exact⟨by rw[J.o];first | rfl | (simp;omega),by first | exact qh.alloc _ _ | exact Z0.trans G.o⟩
      | false=>
       obtain rfl:U=0:=by
        by_cases e:U=0
        ·exact e
        ·exact ϧ ⟨rfl,e⟩ H
       have ad: ¬(0:Int)<(N.length:Int):=by
        by_cases e:N.length=0
        ·omega
        ·exact ϧ ⟨rfl,e⟩ O
       clear H O
       go_enter func92,ntmps92
       go_wp2_with (go_at_call 154;(go_call aa.o _ (Y.o.keep Z0) as e w2 ⟨rfl,d⟩;rw[ab.o];have G:=κ d;clear d))
       go_ret;exact⟨by rw[J.o];first | rfl | (simp;omega),by first | exact qh.alloc _ _ | exact Z0.trans G.o⟩
  ·have J:Hid (R=ύ):=κ (by
    cases R with
    | false=>rfl
    | true=>exact ϧ (I.1 rfl).2.1 h2)
   have ad:(15:Int)<(ss.length:Int):=by omega
   clear I
   go_enter func92,ntmps92
   go_wp2_with (go_at_call 154;(go_call aa.o _ (Y.o.keep Z0) as e w2 ⟨rfl,d⟩;rw[ab.o];have G:=κ d;clear d))
   go_ret;exact⟨by rw[J.o];first | rfl | (simp;omega),by first | exact qh.alloc _ _ | exact Z0.trans G.o⟩
 ·have J:Hid (R=ύ):=κ (by
   cases R with
   | false=>rfl
   | true=>exact ϧ (I.1 rfl).1 h1)
  clear I
  go_enter func92,ntmps92
  go_wp2_with (go_at_call 154;(go_call aa.o _ (Y.o.keep Z0) as e w2 ⟨rfl,d⟩;rw[ab.o];have G:=κ d;clear d))
  go_ret;exact⟨by rw[J.o];first | rfl | (simp;omega),by first | exact qh.alloc _ _ | exact Z0.trans G.o⟩
def Bl (b:List Int):Bool:=decide (2<=b.length)&&decide (192<=b.getD 1 0)&&decide (b.getD 1 0<=223)
def F4 (v:Value) (b:List Int) (w:World) (I:SlI .u8 w v b):
  Calls prog 129 #[v] w λe w'=>e= .returned (μ (Bl b))/\w=w':=by
 obtain⟨aa,N,rfl,Y,d,_⟩:=I;have G:Bl b=(decide (2<=b.length)&&decide (192<=b.getD 1 0)&&decide (b.getD 1 0<=223)):=rfl;rw[G];clear G;by_cases h2:2<=b.length
 ·obtain⟨J,ab,rfl,O,U⟩:=d 1 τ;have H:(2:Int)<=(b.length:Int):=by omega
  rw[Ϩ h2];clear d;generalize b.getD 1 0=x at *;by_cases h3:192<=x
  ·by_cases h4:x<=223
   ·go_enter func129,ntmps129
    go_wp2;go_ret;simp[h3,h4]
   ·go_enter func129,ntmps129
    go_wp2;go_ret;simp[h3,h4]
  ·go_enter func129,ntmps129
   go_wp2;go_ret;simp[h3]
   try omega
 ·have H: ¬(2:Int)<=(b.length:Int):=by omega
  rw[Ϯ h2];clear d
  go_enter func129,ntmps129
  go_wp2;go_ret;simp
end
def WrX (w0 w:World) (W B:Nat) (o:Obj) (l:List Int):Prop:= ∃v,WrK w0 w W v l B o
def WrX.start {w2:World} {o:Obj} (m:qh (w.alloc o) w2):WrK w (w2.alloc (.cells #[δ ϋ 0 0] 204)) w2.heap.size (δ ϋ 0 0) [] w.heap.size o:=by
 have d:w.heap.size<w2.heap.size:=qq (qj m (qp w o));exact⟨gL w2,((qh.alloc w o).trans m).al _,P8 d,qv (qj m (qp w o)) _,τ,by simp[Value.ownBlock]⟩
def WrX.cell {d:World} {cs:Array Value} {t:TypeId} (h:WrX d w W B (.cells cs t (0,0)) l) (i:Nat) (hi:cs[i]? =ϊ v):w.cell? ⟨B,i,ϋ⟩=ϊ v:=by
 obtain⟨v',k⟩:=h;exact qi k.keep i hi
def WrX.more {d:World} {o:Obj} (h:WrX d w W B o l):qh d w:=by
 obtain⟨v',k⟩:=h;exact k.more
def jy (n s:Int):(qy n s).length<=8:=by
 unfold qy;split
 ·rw[yp];omega
 ·simp
def gG.of_right (h:jD p=ό):gG p/\p.ss.length<=15/\p.ex.length<=200/\p.pl.length<=200:=by
 obtain⟨J,N,G,O,d⟩:=(jZ p).1 h;unfold uO at d;have H:p.ex.length<=200:=by
  cases hh:p.has with
  | false=>rw[(G hh).2];simp
  | true=>rw[hh] at d;simp only[Ψ] at d;omega
 have I:p.pl.length<=200:=by split at d<;>omega
 exact⟨⟨τ,τ,τ⟩,τ,H,I⟩
def Qb (p:Pk) (aB aA vp:Value) (w:World) (h:PkS w aB aA vp p) (ao:ud p) (ay:jD p=ό):
  Calls prog 37 #[(Γq p aB aA vp)] w λe w'=>(∃v,e= .returned (.tuple #[v,ι 0])/\w'.ownsRow w.heap.size 5 1 v (pkB p).length ((pkB p).map (Value.int .u8)))/\qh w w':=by
 obtain⟨bV,cA,cB,cC⟩:=gG.of_right ay;have ax:=κ h;have bD:=κ (gX p aB aA vp (w.alloc (.cells (Γq p aB aA vp) 63)) (h.keep Z0) bV);have bT:=(jZ p).1 ay;have bC:=κ ay;obtain⟨⟨os,au,rfl,_⟩,⟨av,ke,rfl,bU⟩,⟨aw,ar,rfl,_⟩⟩:=h;clear bU;have t1:=ao.ty;have t2:=ao.sq;have t3:=ao.st;have t4:=ao.sc;have ca:=ao.pr;have bE:=κ ao.ss;obtain⟨cp,cq,bP,cr,_⟩:=bT;obtain⟨ab,aJ,o2,bi⟩: ∃ab,(p.has=ύ->ab=128+(p.ss.length:Int))/\(p.has=ό->ab=128+(p.ss.length:Int)+16)/\ab=kr p:=⟨_,λe=>by simp[kr,e],λe=>by simp[kr,e],rfl⟩;obtain⟨ac,aK,aL,bj⟩: ∃ac,(p.mr=ύ->ac=p.ty)/\(p.mr=ό->ac=p.ty+128)/\ac=uJ p:=⟨_,λe=>by simp[uJ,e],λe=>by simp[uJ,e],rfl⟩;have bQ:0<=ab/\ab<=255:=by
  cases hh:p.has with
  | false=>rw[aJ hh];omega
  | true=>rw[o2 hh];omega
 have bR:0<=ac/\ac<=255:=by
  cases hh:p.mr with
  | false=>rw[aK hh];omega
  | true=>rw[aL hh];omega
 have aH:pkB p=qy ab 1++qy ac 1++qy p.sq 2++qy p.st 4++qy p.sc 4++ssB p.ss++(if p.has then qy p.pr 2++qy ((p.ex.length:Int)/4) 2++p.ex else [])++p.pl:=by
  rw[bi,bj];rfl
 obtain⟨ap,aE,aF,aO⟩: ∃ap,(p.has=ύ->ap=[])/\(p.has=ό->ap=qy p.pr 2++qy ((p.ex.length:Int)/4) 2++p.ex)/\ap=if p.has then qy p.pr 2++qy ((p.ex.length:Int)/4) 2++p.ex else []:=⟨if p.has then qy p.pr 2++qy ((p.ex.length:Int)/4) 2++p.ex else [],λe=>by simp[e],λe=>by simp[e],rfl⟩
 rw[<-aO] at aH;have cz:ap.length<=300:=by
  have:=jy p.pr 2;have:=jy ((p.ex.length:Int)/4) 2;cases hh:p.has with
  | false=>rw[aE hh];simp
  | true=>rw[aF hh];simp only[Ϗ];omega
 rw[aH];clear ay ao aH bi bj aO;obtain⟨mr,ty,sq,st,sc,ss,has,pr,ex,pl⟩:=p;simp only at *;have bK:=κ aJ;have bL:=κ o2;have bM:=κ aK;have bN:=κ aL;have bv:=κ aE;have bw:=κ aF;have w1:IntKind.i64.wrap (128+(ss.length:Int))=128+(ss.length:Int):=IntWalk.i64_in _ τ;have bX:IntKind.u8.wrap (128+(ss.length:Int))=128+(ss.length:Int):=by
  show (128+(ss.length:Int))%256=_;omega
 obtain⟨s0,s1⟩:=t2;obtain⟨cH,cI⟩:=bQ;obtain⟨cF,cG⟩:=bR;obtain⟨t0,t1⟩:=t1;obtain⟨a0,cj⟩:=t3;obtain⟨ck,cl⟩:=t4;obtain⟨cn,c1⟩:=ca;clear aJ o2 aK aL aE aF bP
 go_enter func37,ntmps37
 go_upto_region 3 with (go_at_call 92;(go_call bD.o as e wr ⟨rfl,aI⟩;rw[bC.o];have bI:=κ aI;have an:=κ (qj aI (qp w (.cells #[μ mr,υ ty,φ sq,ω st,ω sc,δ os ss.length au,has,φ pr,δ av ex.length ke,δ aw pl.length ar] 63)));clear aI;have d:=λn=>β0 (qr an.o n);have G:=λn=>β1 (qr an.o n);have H:=λn=>β2 (qr an.o n);have I:=λn=>β3 (qr an.o n);have J:=λn=>β4 (qr an.o n);have N:=λn=>β5 (qr an.o n);have O:=λn=>β6 (qr an.o n);have U:=λn=>β7 (qr an.o n);have Y:=λn=>β8 (qr an.o n);have aa:=λn=>β9 (qr an.o n)))
 go_quiet (fail)
 clear w1 bX
 go_upto_if 21 with fail
 go_cut [4] from 20 (λbY aq=>bY= υ ab/\aq=wr.drewN nq)
 case first=>
  cases has with
  | false=>
   go_wp2;go_meet;exact⟨by rw[bK.o η],rfl⟩
  | true=>
   go_wp2;go_meet;exact⟨by rw[bL.o η],rfl⟩
 case rest=>
 obtain⟨rfl,rfl⟩:=hcut
 go_upto_if 26 with fail
 go_cut [5] from 24 (λbZ aq=>bZ= υ ac/\aq=wr.drewN nq)
 case first=>
  cases mr with
  | false=>
   go_wp2;go_meet;exact⟨by rw[bM.o η],rfl⟩
  | true=>
   go_wp2;go_meet;exact⟨by rw[bN.o η],rfl⟩
 case rest=>
 obtain⟨rfl,rfl⟩:=hcut;have bJ:Hid (qh (w.alloc (.cells #[μ mr,υ ty,φ sq,ω st,ω sc,δ os ss.length au,has,φ pr,δ av ex.length ke,δ aw pl.length ar] 63)) (wr.drewN nq)):=κ (bI.o.dr nq);have ae:=κ (WrX.start bJ.o);generalize wr.drewN nq=W3 at *;clear d G H I J N O U Y aa;have d:=β0 ae.o.keep;have G:=β1 ae.o.keep;have H:=β2 ae.o.keep;have I:=β3 ae.o.keep;have J:=β4 ae.o.keep;have N:=β5 ae.o.keep;have O:=β6 ae.o.keep;have U:=β7 ae.o.keep;have Y:=β8 ae.o.keep;have aa:=β9 ae.o.keep
 go_wp2_with first | (go_at_call 93;((with_reducible refine(wY ae.o.wr ab τ ζ).mono ?_);rintro e w10 ⟨rfl,bl⟩;obtain⟨cL,aV⟩:=ae.o.wrote bl;have af:=κ aV;clear aV bl d G H I J N O U Y aa;have d:=β0 af.o.keep;have G:=β1 af.o.keep;have H:=β2 af.o.keep;have I:=β3 af.o.keep;have J:=β4 af.o.keep;have N:=β5 af.o.keep;have O:=β6 af.o.keep;have U:=β7 af.o.keep;have Y:=β8 af.o.keep;have aa:=β9 af.o.keep)) | (go_at_call 93;((with_reducible refine(wY af.o.wr ac τ (by have:=jy ab 1;have:=jy ac 1;have:=jy sq 2;have:=jy st 4;have:=jy sc 4;simp only[Ϗ,ϱ];omega)).mono ?_);rintro e cf ⟨rfl,bm⟩;obtain⟨cb,bb⟩:=af.o.wrote bm;have ai:=κ bb;clear bb bm d G H I J N O U Y aa;have d:=β0 ai.o.keep;have G:=β1 ai.o.keep;have H:=β2 ai.o.keep;have I:=β3 ai.o.keep;have J:=β4 ai.o.keep;have N:=β5 ai.o.keep;have O:=β6 ai.o.keep;have U:=β7 ai.o.keep;have Y:=β8 ai.o.keep;have aa:=β9 ai.o.keep)) | (go_at_call 94;(go_call ux ai.o.wr sq τ (by have:=jy ab 1;have:=jy ac 1;have:=jy sq 2;have:=jy st 4;have:=jy sc 4;simp only[Ϗ,ϱ];omega) as e cg ⟨rfl,br⟩;obtain⟨cc,bc⟩:=ai.o.wrote br;have aj:=κ bc;clear bc br d G H I J N O U Y aa;have d:=β0 aj.o.keep;have G:=β1 aj.o.keep;have H:=β2 aj.o.keep;have I:=β3 aj.o.keep;have J:=β4 aj.o.keep;have N:=β5 aj.o.keep;have O:=β6 aj.o.keep;have U:=β7 aj.o.keep;have Y:=β8 aj.o.keep;have aa:=β9 aj.o.keep)) | (go_at_call 95;((with_reducible refine(wk aj.o.wr st τ (by have:=jy ab 1;have:=jy ac 1;have:=jy sq 2;have:=jy st 4;have:=jy sc 4;simp only[Ϗ,ϱ];omega)).mono ?_);rintro e ch ⟨rfl,bs⟩;obtain⟨bk,bd⟩:=aj.o.wrote bs;have ak:=κ bd;clear bd bs d G H I J N O U Y aa;have d:=β0 ak.o.keep;have G:=β1 ak.o.keep;have H:=β2 ak.o.keep;have I:=β3 ak.o.keep;have J:=β4 ak.o.keep;have N:=β5 ak.o.keep;have O:=β6 ak.o.keep;have U:=β7 ak.o.keep;have Y:=β8 ak.o.keep;have aa:=β9 ak.o.keep)) | (go_at_call 95;((with_reducible refine(wk ak.o.wr sc τ (by have:=jy ab 1;have:=jy ac 1;have:=jy sq 2;have:=jy st 4;have:=jy sc 4;simp only[Ϗ,ϱ];omega)).mono ?_);rintro e cP ⟨rfl,bt⟩;obtain⟨cd,be⟩:=ak.o.wrote bt;have am:=κ be;clear be bt d G H I J N O U Y aa;have d:=β0 am.o.keep;have G:=β1 am.o.keep;have H:=β2 am.o.keep;have I:=β3 am.o.keep;have J:=β4 am.o.keep;have N:=β5 am.o.keep;have O:=β6 am.o.keep;have U:=β7 am.o.keep;have Y:=β8 am.o.keep;have aa:=β9 am.o.keep))
 have ci:=κ (ax.o.s.keep am.o.more);generalize aG:([]++qy ab 1++qy ac 1++qy sq 2++qy st 4++qy sc 4)=PX at *;have cx:PX.length<=100:=by rw[<-aG];exact(by have:=jy ab 1;have:=jy ac 1;have:=jy sq 2;have:=jy st 4;have:=jy sc 4;simp only[Ϗ,ϱ];omega)
 have bA:=κ aG;clear aG;clear ae af ai aj ak
 go_loopw [48] (λi aq=> ∃k:Nat,k<=ss.length/\i= ι k/\WrX w aq W3.heap.size w.heap.size (.cells #[μ mr,υ ty,φ sq,ω st,ω sc,δ os ss.length au,has,φ pr,δ av ex.length ke,δ aw pl.length ar] 63) (PX++ssB (ss.take k))) (λi _=>ss.length-(intOf i).toNat)
 case atStart=>exact⟨0,τ,rfl,_,by simpa [ssB] using am.o⟩
 case round=>
  obtain⟨k,ao,rfl,az⟩:=hrel;have ad:=κ az;have bS:(PX++ssB (ss.take k)).length<=10000:=by rw[Ϗ,GU,ϛ];omega
  by_cases hlt:k<ss.length
  ·obtain⟨cD,co,bO,_,aQ,_⟩:=ax.o.s.keep az.more;cases bO;obtain⟨cm,cE,rfl,ct,cu⟩:=aQ k hlt;have cv:(k:Int)<(ss.length:Int):=by omega
   have aU:ss.take (k+1)=ss.take k++[ss.getD k 0]:=by rw[ϵ hlt];simp[hlt]
   have aT:PX++ssB (ss.take (k+1))=PX++ssB (ss.take k)++qy (ss.getD k 0) 4:=by rw[aU,Kh,Ϫ]
   have bF:=κ aT;have bW:=bE.o k;obtain⟨cO,bf⟩:=az;have aM:=κ bf;clear aQ aU aT bf;generalize ss.getD k 0=x at *;obtain⟨cJ,cK⟩:=bW
   go_wp2_with (go_at_call 95;(go_call wk aM.o.wr x τ τ as e w8 ⟨rfl,bu⟩;obtain⟨ce,bg⟩:=aM.o.wrote bu;have bH:=κ bg;clear bg bu))
   go_roundw
   case rel=>exact⟨k+1,τ,by go_num,ce,by rw[bF.o];exact bH.o⟩
   case measure=>simp[intOf];omega
  ·obtain rfl:k=ss.length:=by omega
   rw[ϭ] at ad bS;clear az;have d:=WrX.cell ad.o 0 (v:= μ mr) rfl;have G:=WrX.cell ad.o 1 (v:= υ ty) rfl;have H:=WrX.cell ad.o 2 (v:= φ sq) rfl;have I:=WrX.cell ad.o 3 (v:= ω st) rfl;have J:=WrX.cell ad.o 4 (v:= ω sc) rfl;have N:=WrX.cell ad.o 5 (v:= δ os ss.length au) rfl;have O:=WrX.cell ad.o 6 (v:= μ has) rfl;have U:=WrX.cell ad.o 7 (v:= φ pr) rfl;have Y:=WrX.cell ad.o 8 (v:= δ av ex.length ke) rfl;have aa:=WrX.cell ad.o 9 (v:= δ aw pl.length ar) rfl;generalize aP:PX++ssB ss=PY at *;have bB:=κ aP;clear aP
   go_upto_if 56 with fail
   go_cut [] from 57 (λaq=>WrX w aq W3.heap.size w.heap.size (.cells #[μ mr,υ ty,φ sq,ω st,ω sc,δ os ss.length au,has,φ pr,δ av ex.length ke,δ aw pl.length ar] 63) (PY++ap))
   case first=>
    cases has with
    | false=>
     have aC:=κ (bv.o η);go_wp2;go_meet;rw[aC.o,Ω];exact ad.o
    | true=>
     have aC:=κ (bw.o η);obtain⟨v9,bh⟩:=ad.o;have aN:=κ bh;have cy:((ex.length:Int)).tdiv 4=(ex.length:Int)/4:=Q1 τ;clear bh
     go_wp2_with first | (go_at_call 94;((with_reducible refine(ux aN.o.wr pr τ τ).mono ?_);rintro e cf ⟨rfl,bn⟩;obtain⟨cb,aW⟩:=aN.o.wrote bn;have al:=κ aW;clear aW bn d G H I J N O U Y aa;have d:=β0 al.o.keep;have G:=β1 al.o.keep;have H:=β2 al.o.keep;have I:=β3 al.o.keep;have J:=β4 al.o.keep;have N:=β5 al.o.keep;have O:=β6 al.o.keep;have U:=β7 al.o.keep;have Y:=β8 al.o.keep;have aa:=β9 al.o.keep)) | (go_at_call 94;((with_reducible refine(ux al.o.wr ((ex.length:Int)/4) τ (by have:=jy pr 2;simp only[Ϗ] at *;omega)).mono ?_);rintro e cg ⟨rfl,bo⟩;obtain⟨cc,aX⟩:=al.o.wrote bo;have ag:=κ aX;clear aX bo d G H I J N O U Y aa;have d:=β0 ag.o.keep;have G:=β1 ag.o.keep;have H:=β2 ag.o.keep;have I:=β3 ag.o.keep;have J:=β4 ag.o.keep;have N:=β5 ag.o.keep;have O:=β6 ag.o.keep;have U:=β7 ag.o.keep;have Y:=β8 ag.o.keep;have aa:=β9 ag.o.keep)) | (go_at_call 96;(go_call wP ag.o.wr _ ex (ax.o.e.keep ag.o.more) (by have:=jy pr 2;have:=jy ((ex.length:Int)/4) 2;simp only[Ϗ] at *;omega) as e ch ⟨rfl,bp⟩;obtain⟨bk,aY⟩:=ag.o.wrote bp;have bG:=κ aY;clear aY bp))
     go_meet;rw[aC.o];exact⟨bk,by have:=bG.o;simpa only[Ϫ] using this⟩
   case rest=>
    obtain⟨cd,aZ⟩:=hcut;have ah:=κ aZ;clear aZ ad d G H I J N O U Y aa;have d:=β0 ah.o.keep;have G:=β1 ah.o.keep;have H:=β2 ah.o.keep;have I:=β3 ah.o.keep;have J:=β4 ah.o.keep;have N:=β5 ah.o.keep;have O:=β6 ah.o.keep;have U:=β7 ah.o.keep;have Y:=β8 ah.o.keep;have aa:=β9 ah.o.keep;have cw:(PY++ap).length<=20000:=by rw[Ϗ];omega
    go_wp2_with first | (go_at_call 96;(go_call wP ah.o.wr _ pl (ax.o.l.keep ah.o.more) τ as e cQ ⟨rfl,bq⟩;obtain⟨cM,ba⟩:=ah.o.wrote bq;have aD:=κ ba;clear ba bq d G H I J N O U Y aa)) | (go_at_call 97;(go_call gW aD.o.wr (by rw[Ϗ];omega) as e cR ⟨cN,rfl,aS,aR⟩;have bz:=κ aS;have bx:=κ aR;clear aS aR))
    go_ret2
    refine⟨⟨_,rfl, ?_⟩,aD.o.more.trans bx.o⟩;have:=kV bz.o aD.o.more.size;rw[<-bB.o,<-bA.o] at this;exact this
def xh {e:Nat} {cur:Array Value} (h:w.heap[g]? =ϊ (.cells cur e (0,0))) (cs:Array Value):(w.setRow g cs).heap[g]? =ϊ (.cells cs e (0,0)):=setRow_heap w g cur cs e (0,0) h
def xt (w:World) (g:Nat) (cs:Array Value):qk (λk=>k=g) w (w.setRow g cs):=by
 refine⟨rfl,rfl,rfl,by simp[World.setRow],λb G d=> ?_⟩;unfold World.setRow;simp only;rw[G5,ώ (λe=>d e.symm)]
def qZ {o:Obj} (h:w.heap[b]? =ϊ o) (cs:Array Value) (d:b≠g):(w.setRow g cs).heap[b]? =ϊ o:=(xt w g cs).blk h d
def qk.row {a b:World} (h:qk S a b) (d:S g) (cs:Array Value):qk S a (b.setRow g cs):=h.trans ((xt b g cs).mono λk e=>by rw[e];exact d)
def qk.rowNew {a b:World} (h:qk S a b) (G:a.heap.size<=g) (cs:Array Value):qk S a (b.setRow g cs):=by
 have k:=xt b g cs;exact⟨k.os.trans h.os,k.tape.trans h.tape,k.output.trans h.output,ϙ h.size k.size,λi hi d=>by rw[k.block i (ϗ hi h.size) τ];exact h.block i hi d⟩
def qk.alc {a b:World} (h:qk S a b) (o:Obj):qk S a (b.alloc o):=h.more Z0
def qk.grown {a b c:World} (h:qk S a b) {v:Option Nat} (g:b.grownBy c v) (H: ∀k,v=ϊ k->a.heap.size<=k):qk S a c:=
 ⟨g.os.trans h.os,g.tape.trans h.tape,g.output.trans h.output,ϙ h.size g.size,λk d G=>by rw[g.block k (ϗ d h.size) (λe=>by have:=H k e.symm;omega)];exact h.block k d G⟩
def Gx: ∀(css:List (List Value)) (i j:Nat),(∀c∈css,c.length=n)->i<css.length->j<n->css.flatten[i* n+j]? =(css.getD i [])[j]?
 | [],_,_,_,h,_=>ϧ h η
 | c::css,0,j,hl,_,hj=>by
  have:=hl c η;rw[B3,M5,E9,ϻ τ];rfl
 | c::css,i+1,j,hl,hi,hj=>by
  have d:=hl c η;rw[B3,ϯ (by rw[d,C9];omega),d,show (i+1)* n+j-n=i* n+j by rw[C9];omega];exact Gx css i j (λG H=>hl G (by simp[H])) (by simpa using hi) hj
def Bw: ∀(css:List (List Value)),(∀c∈css,c.length=n)->css.flatten.length=css.length* n
 | [],_=>by simp
 | c::css,h=>by
  rw[B3,Ϗ,Bw css λd G=>h d (by simp[G]),h c η,Ϙ,C9];omega
def Vd (z:Array Value) (k n:Nat) (G:z.size=k) (d:0<k):madeCells z (n* k)=(List.replicate n z.toList).flatten.toArray:=by
 apply Array.ext';apply K9;intro j;have H: ∀c∈List.replicate n z.toList,c.length=k:=λc Y=>by rw[G8 Y];simpa using G
 by_cases hj:j<n* k
 ·have J:j/k<n:=by rw[T6 d];exact hj
  have N:j/k* k+j%k=j:=by rw[X6];exact T2 j k
  have I:j%k<z.size:=by rw[G];exact G6 _ d
  have:=Gx (n:=k) (List.replicate n z.toList) (j/k) (j%k) H (by simpa using J) (G6 _ d);rw[N] at this;show (madeCells z (n* k)).toList[j]? =(List.replicate n z.toList).flatten[j]?;rw[this];unfold madeCells;simp[hj,J,G,List.getElem?_replicate];rw[R0 I,getElem!_pos z (j%k) I]
 ·have O:(madeCells z (n* k)).toList[j]? =ϋ:=by rw[M7,M9,size_madeCells];omega
  have U:(List.replicate n z.toList).flatten[j]? =ϋ:=by rw[M7,Bw _ H,List.length_replicate];omega
  rw[O];exact U.symm
def xp (cur:List Value) (o:Nat) (vs:List Value):List Value:=cur.take o++vs++cur.drop (o+vs.length)
def XO: ∀(css:List (List Value)) (k:Nat) (c:List Value),(∀d∈css,d.length=n)->c.length=n->k<css.length->xp css.flatten (k* n) c=(css.set k c).flatten
 | [],_,_,_,_,h=>ϧ h η
 | d::css,0,c,hl,hc,_=>by
  have G:=hl d η;unfold xp;rw[M5,Q6,I5,E9,B3,G9 τ,I8 τ,I5,List.set_cons_zero,B3]
 | d::css,k+1,c,hl,hc,hk=>by
  have G:=hl d η;have H:=XO css k c (λe J=>hl e (by simp[J])) hc (by simpa using hk);unfold xp at H ⊢;rw[List.set_cons_succ,B3,B3,<-H];have I:(k+1)* n=d.length+k* n:=by rw[G,C9];omega
  rw[I,List.take_length_add_append,N0,List.drop_length_add_append];simp
def jQ {t:Nat} (h:w.heap[g]? =ϊ (.cells cs.toArray t (0,0))):w.rangeAt g 0 cs:=λj v d=>by
 rw[cell_of_row w g (0+j) cs.toArray t (0,0) h,E9,A6];exact d
section
variable {P:Program} {C:World->Prop}
def jg {l:List Oper} {T:Nat} {Q:Act->World->Prop} {k:Nat} {o:Oper} {rest:List (Nat×Bool)} (Y:l[k]? =ϊ o) (H:Region.wanted o (yielded l.toArray a.tmps)=ό) (J:C w)
  (d:TypeId) (x:Operand) (aa:o.op= .load d x) (b I:Nat) (ac:a.eval x= π (ϊ ⟨b,I,ϋ⟩)) (cs:List Value) (G:TypeDesc) (O: ∀w,C w->w.rangeAt b I cs)
  (ab:P.underlying d=ϊ G) (U:G.isRow=ό) (hi:(P.info? d).map (·.size)=ϊ cs.length)
  (h: ∀K:Act->Prop,(∀a,yy P l T C Q rest a w->K a)->K (a.put o.dst (θ cs.toArray))):yy P l T C Q ((k,ύ)::rest) a w:=
 qz Y H J λK N=>⟨θ cs.toArray,λw H=>by
  unfold Oper.quietAt execOp;simp only[aa,ac,Instr.loadAt,Instr.sureAddr,Sem.run_bind,Sem.run_pure,Result.andThen_ok,run_loadVar_mid w b I d cs G (O w H) ab U hi]
  exact⟨rfl,rfl⟩,h K N⟩
def VF (G:TypeId) (g d:Nat) (e:TypeId) (cur:Array Value) (cs:List Value) (N:w.heap[g]? =ϊ (.cells cur e (0,0))) (J:d+cs.length<=cur.size)
  (hi:(P.info? G).map (·.size)=ϊ cs.length) (I: ∀u∈cs,u.oneCell'=ό):
  (Instr.storeAt G (π (ϊ ⟨g,d,ϋ⟩)) (θ cs.toArray)).run P w= .ok () (w.setRow g (xp cur.toList d cs).toArray):=by
 have H:=run_storeCells_at P g d e cs 0 cur w N (by simpa using J) I;cases hq:P.info? G with
 | none=>simp[hq] at hi
 | some i=>
  have O:cs.length=i.size:=by simp[hq] at hi;omega
  simp only[I7] at H;unfold xp;simp[Instr.storeAt,Instr.sureAddr,storeVar,sizeOf,typeInfo,hq,Value.cells,O,H]
def zt {o:Oper} (G:TypeId) (x y:Operand) (N:o.op= .store G x y) (g d:Nat) (e:TypeId) (cur:Array Value) (cs:List Value)
  (O:a.eval x= π (ϊ ⟨g,d,ϋ⟩)) (U:a.eval y= θ cs.toArray) (J:w.heap[g]? =ϊ (.cells cur e (0,0))) (I:d+cs.length<=cur.size) (hi:(P.info? G).map (·.size)=ϊ cs.length) (H: ∀u∈cs,u.oneCell'=ό)
  (h:C (w.setRow g (xp cur.toList d cs).toArray)/\K (a.put o.dst undef) (w.setRow g (xp cur.toList d cs).toArray)):jt P C o a w K:=by
 unfold jt execOp;simp only[N,O,U,Sem.run_bind,Sem.run_pure,Result.andThen_ok,VF G g d e cur cs J I hi H];exact h
def jw {o:Oper} (G:TypeId) (x y:Operand) (J:o.op= .store G x y) (g:Nat) (e:TypeId) (c d:Array Value)
  (O:a.eval x= γ g) (U:a.eval y= θ d) (I:w.heap[g]? =ϊ (.cells c e (0,0))) (hi:(P.info? G).map (·.size)=ϊ d.size) (N:c.size=d.size) (H:d.all (·.oneCell')=ό)
  (h:C (w.setRow g d)/\K (a.put o.dst undef) (w.setRow g d)):jt P C o a w K:=by
 unfold jt execOp;simp only[J,O,U,Instr.storeAt,Instr.sureAddr,Sem.run_bind,Sem.run_pure,Result.andThen_ok,run_storeVar_row w g e G c d I hi N H];exact h
def zo {o:Oper} (N:o.guard=ϋ) (G:TypeId) (x y:Operand) (O:o.op= .store G x y)
  (g:Nat) (t:TypeId) (c d:Array Value) (J:w.heap[g]? =ϊ (.cells c t (0,0))) (Y:a.eval x= γ g) (aa:a.eval y= θ d)
  (hi:(P.info? G).map (·.size)=ϊ d.size) (U:c.size=d.size) (H:d.all (·.oneCell')=ό)
  (h:wpList P ops Q rest (a.put o.dst undef) (w.setRow g d)):wpList P ops Q (o::rest) a w:=by
 refine wpList_plain N λK I=> ?_
 unfold Oper.wp execOp;simp only[O,Y,aa,Instr.storeAt,Instr.sureAddr,Sem.run_bind,Sem.run_pure,Result.andThen_ok,run_storeVar_row w g t G c d J hi U H];exact I _ _ h
def vh {o:Oper} (p:Op) (_:o.op=p) (h:wpList P ops Q (o::rest) a w):wpList P ops Q (o::rest) a w:=h
def kv {o:Oper} (N:o.guard=ϋ) (d:TypeId) (x:Operand) (O:o.op= .load d x)
  (g:Nat) (t:TypeId) (c:Array Value) (G:TypeDesc) (J:w.heap[g]? =ϊ (.cells c t (0,0))) (Y:a.eval x= γ g)
  (U:P.underlying d=ϊ G) (I:G.isRow=ό) (hi:(P.info? d).map (·.size)=ϊ c.size)
  (h:wpList P ops Q rest (a.put o.dst (θ c)) w):wpList P ops Q (o::rest) a w:=by
 have H:w.rangeAt g 0 c.toList:=by
  have:=World.rangeAt_of_block J 0 c.size;rw[E9,Array.extract_size] at this;exact this
 have:=wpList_load_mid (P:=P) (ops:=ops) (rest:=rest) (op:=o) (a:=a) (w:=w) (Q:=Q) N d x O g 0 Y c.toList G H U I (by rw[hi];simp);simp only[Array.toArray_toList] at this;exact this h
def uA (w:World) (t aa e:TypeId) (z:Value) (d:List Value) (N:P.underlying t=ϊ (.slice e)) (O: ∀w,(zeroValue e).run P w= .ok z w) (U:(Builtin.zeroCells z.cells 1).toList=d) (g o c:Nat) (cur:Array Value) (J:w.heap[g]? =ϊ (.cells cur e (0,0)))
  (I:o+d.length<=cur.size) (H: ∀v∈d,v.oneCell'=ό):
  (Builtin.clear_ #[t] aa #[δ (ϊ ⟨g,o,ϋ⟩) 1 c]).run P w= .ok (.tuple #[]) (w.setRow g (xp cur.toList o d).toArray):=by
 have Y:Builtin.zeroCells z.cells 1=d.toArray:=by
  rw[<-U]
 have G:=run_storeCells_at P g o e d 0 cur w J (by simpa using I) H;simp only[I7] at G;unfold xp;simp[Builtin.clear_,run_underlying N,O w,Y,G]
end
def xe (A room first q:Nat) (ci co cd cg:Int):Array Value:=
 #[.slice (ϊ ⟨A,0,ϋ⟩) room room,.int .i64 first,.int .i64 q,.bool ύ,.int .i64 ci,.int .i64 co,.int .i64 cd,.int .i64 cg]
structure qU (n tr te:Nat) (w:World) (R A room first:Nat) (q:List (List Value)) (ci co cd cg:Int) (css:List (List Value)):Prop where
 ring:w.heap[R]? =ϊ (.cells (xe A room first q.length ci co cd cg) tr (0,0))
 row:w.heap[A]? =ϊ (.cells css.flatten.toArray te (0,0))
 ne:R≠A
 len:css.length=room
 all: ∀c∈css,c.length=n/\ ∀u∈c,u.oneCell'=ό
 pos:1<=room/\room<=8
 fst:first<room
 fits:q.length<=room
 holds: ∀i,i<q.length->css.getD ((first+i)%room) []=q.getD i []
def RgB (R A:Nat) (b:Nat):Prop:=b=R∨b=A
def Ox (first i room:Nat):((first+1)%room+i)%room=(first+(i+1))%room:=by
 rw[Nat.mod_add_mod];congr 1;omega
def Bx {first i:Nat} (h:first<room) (hi:i<room):(first+i)%room=if first+i<room then first+i else first+i-room:=by
 split
 ·exact O2 (by assumption)
 ·rw[Nat.mod_eq_sub_mod τ,O2 τ]
section
variable {n tr te:Nat} {w w':World} {R A room first:Nat} {q:List (List Value)} {ci co cd cg:Int} {css:List (List Value)}
def qU.away (h:qU n tr te w R A room first q ci co cd cg css) (a:qk S w w') (G: ¬S R) (d: ¬S A):qU n tr te w' R A room first q ci co cd cg css:=
 {h with ring:=a.blk h.ring G,row:=a.blk h.row d}
def qU.more (h:qU n tr te w R A room first q ci co cd cg css) (m:qh w w'):qU n tr te w' R A room first q ci co cd cg css:=
 {h with ring:=qj m h.ring,row:=qj m h.row}
def qU.ctr (h:qU n tr te w R A room first q ci co cd cg css) (i:Nat) (v:Value) {H I d G:Int} (e:(xe A room first q.length ci co cd cg).setIfInBounds i v=xe A room first q.length H I d G):qU n tr te (w.setCell ⟨R,i,ϋ⟩ v) R A room first q H I d G css:=
 {h with ring:=qF (qt h.ring i v) e,row:=qs h.row _ _ (C6 h.ne)}
def qU.popped (h:qU n tr te w R A room first q ci co cd cg css) (v:Int):qU n tr te (w.setCell ⟨R,5,ϋ⟩ (ι v)) R A room first q ci v cd cg css:=h.ctr 5 _ rfl
def qU.dropped (h:qU n tr te w R A room first q ci co cd cg css) (v:Int):qU n tr te (w.setCell ⟨R,6,ϋ⟩ (ι v)) R A room first q ci co v cg css:=h.ctr 6 _ rfl
def qU.drained (h:qU n tr te w R A room first q ci co cd cg css) (v:Int):qU n tr te (w.setCell ⟨R,7,ϋ⟩ (ι v)) R A room first q ci co cd v css:=h.ctr 7 _ rfl
def yN {P:Program} {p u:Tmp} {d:TypeId} (h:I.results= #[.cell p d,.tmp u]) (tmps:Array Value) (w:World) (g:Nat) (t:TypeId) (cs:Array Value) (G:TypeDesc) (H:Value)
  (O:tmps.getD p undef= γ g) (Y:tmps.getD u undef=H) (N:w.heap[g]? =ϊ (.cells cs t (0,0)))
  (ab:P.underlying d=ϊ G) (J:(match G with | .struct _ | .array _ _=>ό | _=>ύ)=ό) (hi:(P.info? d).map (·.size)=ϊ cs.size):
  (results I tmps).run P w= .ok (.tuple #[θ cs,H]) w:=by
 have U:tmps[p]?.getD undef= γ g:=by simpa using O
 have aa:tmps[u]?.getD undef=H:=by simpa using Y
 simp[results,h,U,aa,asAddr,run_loadVar_row w g t d cs (0,0) G N ab J hi]
def UU {P:Program} {p u s:Tmp} {d:TypeId} (h:I.results= #[.cell p d,.tmp u,.tmp s]) (tmps:Array Value) (w:World) (g:Nat) (t:TypeId) (cs:Array Value) (G:TypeDesc) (H v3:Value)
  (O:tmps.getD p undef= γ g) (Y:tmps.getD u undef=H) (ab:tmps.getD s undef=v3) (N:w.heap[g]? =ϊ (.cells cs t (0,0)))
  (ad:P.underlying d=ϊ G) (J:(match G with | .struct _ | .array _ _=>ό | _=>ύ)=ό) (hi:(P.info? d).map (·.size)=ϊ cs.size):
  (results I tmps).run P w= .ok (.tuple #[θ cs,H,v3]) w:=by
 have U:tmps[p]?.getD undef= γ g:=by simpa using O
 have aa:tmps[u]?.getD undef=H:=by simpa using Y
 have ac:tmps[s]?.getD undef=v3:=by simpa using ab
 simp[results,h,U,aa,ac,asAddr,run_loadVar_row w g t d cs (0,0) G N ad J hi]
def qU.cl (h:qU n tr te w R A room first q ci co cd cg css): ∀c∈css,c.length=n:=λc d=>(h.all c d).1
def qU.size (h:qU n tr te w R A room first q ci co cd cg css):css.flatten.toArray.size=room* n:=by rw[I4,Bw css h.cl,h.len]
def qU.range (h:qU n tr te w R A room first q ci co cd cg css) {k:Nat} (J:k<room):w.rangeAt A (k* n) (css.getD k []):=λj v G=>by
 have d:k<css.length:=by rw[h.len];exact J
 have H:(css.getD k []).length=n:=by
  rw[ϑ,ϖ d];exact h.cl _ (Ϣ d)
 have I:j<n:=by rw[<-H];exact(ϟ.1 G).1
 rw[cell_of_row w A (k* n+j) css.flatten.toArray te (0,0) h.row,A6,Gx css k j h.cl d I];exact G
def qU.head (h:qU n tr te w R A room first (c::T) ci co cd cg css):css.getD first []=c:=by
 have:=h.holds 0 η;rw[I7,O2 h.fst] at this;exact this
def qU.ofHead (h:qU n tr te w R A room first (c::T) ci co cd cg css):c.length=n/\ ∀u∈c,u.oneCell'=ό:=by
 rw[<-h.head];have d:first<css.length:=by rw[h.len];exact h.fst
 rw[ϑ,ϖ d];exact h.all _ (Ϣ d)
def qU.qall (h:qU n tr te w R A room first q ci co cd cg css): ∀c∈q,c.length=n/\ ∀u∈c,u.oneCell'=ό:=λc G=>by
 obtain⟨i,hi,rfl⟩:=ε.1 G;have:=h.holds i hi;rw[ϑ,ϑ,ϖ hi,ϩ] at this;rw[<-this];have d:(first+i)%room<css.length:=by rw[h.len];exact G6 _ (by have:=h.pos;omega)
 rw[ϖ d];exact h.all _ (Ϣ d)
def GY {p:List Value->Prop} {k:Nat} (h: ∀c∈css,p c) (G:p z): ∀c∈css.set k z,p c:=λc d=>by
 rcases List.mem_or_eq_of_mem_set d with h1 | rfl
 ·exact h c h1
 ·exact G
def qU.took (h:qU n tr te w R A room first (c::T) ci co cd cg css) (ab:z.length=n/\ ∀u∈z,u.oneCell'=ό) {H I d G:Int}
  (Y:w'.heap[R]? =ϊ (.cells (xe A room ((first+1)%room) T.length H I d G) tr (0,0))) (aa:w'.heap[A]? =ϊ (.cells (css.set first z).flatten.toArray te (0,0))):qU n tr te w' R A room ((first+1)%room) T H I d G (css.set first z):=by
 have N:=h.fits;simp at N;refine⟨Y,aa,h.ne,by rw[List.length_set];exact h.len,GY h.all ab,h.pos,G6 _ (by have:=h.pos;omega),τ,λi hi=> ?_⟩;rw[Ox];have U:=h.holds (i+1) (by simp;omega);have J:=h.fst;have O:(first+(i+1))%room≠first:=by
  intro e;rw[Bx J τ] at e;split at e<;>omega
 rw[ϑ,J2 (C6 O),<-ϑ,U];rfl
def qU.put (h:qU n tr te w R A room first q ci co cd cg css) (Y:q.length<room) (O:c.length=n/\ ∀u∈c,u.oneCell'=ό) {I J G H:Int}
  (aa:w'.heap[R]? =ϊ (.cells (xe A room first (q.length+1) I J G H) tr (0,0))) (ab:w'.heap[A]? =ϊ (.cells (css.set ((first+q.length)%room) c).flatten.toArray te (0,0))):qU n tr te w' R A room first (q++[c]) I J G H (css.set ((first+q.length)%room) c):=by
 refine⟨by simpa using aa,ab,h.ne,by rw[List.length_set];exact h.len,GY h.all O,h.pos,h.fst,by simp;omega,λi hi=> ?_⟩;have N:=h.fst;simp at hi;by_cases e:i=q.length
 ·subst e;rw[ϑ,S2 (by rw[h.len];exact G6 _ τ)];simp
 ·have U:(first+i)%room≠(first+q.length)%room:=by
   intro d;rw[Bx N τ,Bx N Y] at d;split at d<;>split at d<;>omega
  rw[ϑ,J2 (C6 U),<-ϑ,h.holds i τ];simp only[ϑ];rw[ϻ τ]
end
def GC (zs:List Value) (first room:Nat) (q0 css:List (List Value)) (cd:Int):Bool->List Value->Nat->List (List Value)->Int->List (List Value)->Prop
 | false,old,f,q,cd',cs=>old=zs/\f=first/\q=q0/\cd'=cd/\cs=css
 | true,old,f,q,_,cs=>q0=old::q/\f=(first+1)%room/\cs=css.set first zs
def je (n:Int):Bool:=decide (0<=n/\n<3)
def Ψ1 (h:P:=by
 have G:Hid (je n=decide (0<=n/\n<3)):=κ rfl;by_cases h1:0<=n
 ·by_cases h2:n<3
  ·have d:je n=ό:=by rw[G.o];simp[h1,h2]
   rw[d]
   go_enter Ξa,Ξb
   go_wp2
   all_goals (go_ret;first | exact⟨rfl,rfl⟩ | omega)
  ·have d:je n=ύ:=by rw[G.o];simp[h2]
   rw[d]
   go_enter Ξa,Ξb
   go_wp2
   all_goals (go_ret;first | exact⟨rfl,rfl⟩ | omega)
 ·have d:je n=ύ:=by rw[G.o];simp[h1]
  rw[d]
  go_enter Ξa,Ξb
  go_wp2
  all_goals (go_ret;first | exact⟨rfl,rfl⟩ | omega)):P:=h
section
open _root_.Go.Proofs.Tryz renaming func207->Ξa,ntmps207->Ξb
def VD (n:Int) (w:World):Calls prog 207 #[ι n] w λe w'=>e= .returned (μ (je n))/\w'=w:=Ψ1
end
section
open _root_.Go.Proofs.Tryz renaming func151->Ξa,ntmps151->Ξb
def zp (n:Int) (w:World):Calls prog 151 #[ι n] w λe w'=>e= .returned (μ (je n))/\w'=w:=Ψ1
end
def JH (c t n:Int) (d:je n=ό) (w:World):Calls prog 152 #[θ #[ι c,ι t],ι n] w λe w'=>e= .returned (.tuple #[θ #[ι c,ι n],ι 0])/\qh w w':=by
 have G:=κ d;clear d
 go_enter func152,ntmps152
 go_wp2_with (first | (go_at_call 207;((with_reducible refine(VD n _).mono ?_);rintro e w1 ⟨rfl,rfl⟩;rw[G.o])))
 refine bodyPost_ret (v:= .tuple #[θ #[ι c,ι n],ι 0]) (by simp[results,results152,go_sem]) rfl ?_;exact⟨rfl,ρ⟩
def VE (n:Int) (H:je n=ό) (w:World):Calls prog 153 #[ι n] w λe w'=>e= .returned (.tuple #[θ #[ι (-1),ι n],ι 0])/\qh w w':=by
 have I:=κ H;clear H
 go_enter func153,ntmps153
 go_wp2_with (first | (go_at_call 152;(go_call JH (-1) 0 n I.o _ as e w1 ⟨rfl,d⟩;have G:Hid (w1.heap[w.heap.size]? =ϊ (.cells #[ι 0,ι 0] 103 (0,0))):=κ (qj d (qp _ _));have J:=κ (Z0.trans d);clear d)) | (refine vh (.store 103 (.tmp 2) (.tmp 7)) rfl ?_;refine zo rfl 103 (.tmp 2) (.tmp 7) rfl w.heap.size 103 _ #[ι (-1),ι n] G.o rfl rfl ξ rfl (all_oneCell_toArray Z5) ?_))
 refine bodyPost_ret (v:= .tuple #[θ #[ι (-1),ι n],ι 0]) (yN results153 _ _ w.heap.size 103 #[ι (-1),ι n] _ _ rfl rfl (xh G.o _) underlying103 rfl ξ) rfl ?_;exact⟨rfl,(xt _ _ _).to_more J.o (λk e=>by rw[e];exact ϕ _)⟩
def Wg (c t n:Int) (k:Bool) (d:(n==c)=ό) (G:(n != c)=ύ) (w:World):Calls prog 198 #[θ #[ι c,ι t],ι n,k] w λe w'=>e= .returned (.tuple #[θ #[ι c,ι t],ι 0,ύ])/\qh w w':=by
 go_enter func198,ntmps198
 go_wp2;refine bodyPost_ret (v:= .tuple #[θ #[ι c,ι t],ι 0,ύ]) (by simp[results,results198,go_sem]) rfl ?_;exact⟨rfl,ρ⟩
def Wh (c t n:Int) (k:Bool) (d:(n != c)=ό) (G:(n==t)=ό) (H:k=ό) (w:World):Calls prog 198 #[θ #[ι c,ι t],ι n,k] w λe w'=>e= .returned (.tuple #[θ #[ι n,ι t],ι 0,ό])/\qh w w':=by
 go_enter func198,ntmps198
 go_wp2;refine bodyPost_ret (v:= .tuple #[θ #[ι n,ι t],ι 0,ό]) (by simp[results,results198,go_sem]) rfl ?_;exact⟨rfl,ρ⟩
def KZ (c t n:Int) (k:Bool) (G:(n != c)=ό) (d:(n==c)=ύ) (H:(n==t)=ό) (I:k=ύ) (w:World):Calls prog 198 #[θ #[ι c,ι t],ι n,k] w λe w'=>e= .returned (.tuple #[θ #[ι c,ι t],ι 5,ύ])/\qh w w':=by
 go_enter func198,ntmps198
 go_wp2;refine bodyPost_ret (v:= .tuple #[θ #[ι c,ι t],ι 5,ύ]) (by simp[results,results198,go_sem]) rfl ?_;exact⟨rfl,ρ⟩
def CN (c t n:Int) (k:Bool) (G:(n != c)=ό) (d:(n==c)=ύ) (H:(n==t)=ύ) (w:World):Calls prog 198 #[θ #[ι c,ι t],ι n,k] w λe w'=>e= .returned (.tuple #[θ #[ι c,ι t],ι 4,ύ])/\qh w w':=by
 go_enter func198,ntmps198
 go_wp2;refine bodyPost_ret (v:= .tuple #[θ #[ι c,ι t],ι 4,ύ]) (by simp[results,results198,go_sem]) rfl ?_;exact⟨rfl,ρ⟩
def Ub (m:Int) (d:1<=m) (G:m<=10) (w:World):Calls prog 149 #[ι m] w λe w'=>e= .returned (.tuple #[θ #[ι m,ι 0,ύ],ι 0])/\qh w w':=by
 go_enter func149,ntmps149
 go_wp2;refine bodyPost_ret (v:= .tuple #[θ #[ι m,ι 0,ύ],ι 0]) (by simp[results,results149,go_sem]) rfl ?_;exact⟨rfl,ρ⟩
def ZW (s q t:Int) (w:World):Calls prog 150 #[ω s,φ q,ω t] w λe w'=>e= .returned (θ #[ω s,φ q,ω t,ύ,ω 0,ω 0])/\qh w w':=by
 go_enter func150,ntmps150
 go_wp2;refine bodyPost_ret (v:= θ #[ω s,φ q,ω t,ύ,ω 0,ω 0]) (by simp[results,results150,go_sem]) rfl ?_;exact⟨rfl,ρ⟩
def ZI (m r:Int) (g:Bool) (w:World):Calls prog 234 #[θ #[ι m,ι r,g]] w λe w'=>e= .returned (θ #[ι m,ι 0,g])/\qh w w':=by
 go_enter func234,ntmps234
 go_wp2;refine bodyPost_ret (v:= θ #[ι m,ι 0,g]) (by simp[results,results234,go_sem]) rfl ?_;exact⟨rfl,ρ⟩
def ZX (m r:Int) (g:Bool) (d:0<=r) (G:r<=10) (w:World):Calls prog 233 #[θ #[ι m,ι r,g]] w λe w'=>e= .returned (θ #[ι m,ι (r+1),(r+1==m)])/\qh w w':=by
 go_enter func233,ntmps233
 go_wp2;refine bodyPost_ret (v:= θ #[ι m,ι (r+1),(r+1==m)]) (by simp[results,results233,go_sem]) rfl ?_;exact⟨rfl,ρ⟩
def WI (m r:Int) (a:Bool) (w:World):Calls prog 176 #[θ #[ι m,ι r,ό],a] w λe w'=>e= .returned (.tuple #[θ #[ι m,ι r,ό],ύ])/\qh w w':=by
 go_enter func176,ntmps176
 go_wp2;refine bodyPost_ret (v:= .tuple #[θ #[ι m,ι r,ό],ύ]) (by simp[results,results176,go_sem]) rfl ?_;exact⟨rfl,ρ⟩
def DI (m r:Int) (w:World):Calls prog 176 #[θ #[ι m,ι r,ύ],ό] w λe w'=>e= .returned (.tuple #[θ #[ι m,ι 0,ύ],ύ])/\qh w w':=by
 have U:=κ (ZI m r ύ)
 go_enter func176,ntmps176
 go_wp2_with (refine(U.o _).mono ?_;rintro e w1 ⟨rfl,J⟩;have H:Hid (w1.heap[w.heap.size+1]? =ϊ (.cells #[ι 0,ι 0,ύ] 151 (0,0))):=κ (qj J (qH η));have O:Hid (qh w w1):=κ ((Z0.al _).trans J);clear J)
 obtain⟨W1,G⟩:=ν (w1.alloc (.cells #[ι m,ι 0,ύ] 151));have aa:Hid (qh w W1):=κ (by rw[<-G];exact O.o.al _);have N:Hid (W1.heap[w.heap.size+1]? =ϊ (.cells #[ι 0,ι 0,ύ] 151 (0,0))):=κ (by rw[<-G];exact qv H.o _);have I:Hid (W1.heap[w1.heap.size]? =ϊ (.cells #[ι m,ι 0,ύ] 151 (0,0))):=κ (by rw[<-G];exact qp w1 _);rw[G];clear G O;have Y: ∀x:qC (λb=>b=w.heap.size+1) W1,x.w'.rangeAt w1.heap.size 0 [ι m,ι 0,ύ]:=λx=>jQ (x.h.blk I.o (by have:=qq H.o;omega))
 have ac: ∀x:qC (λb=>b=w.heap.size+1) W1,x.w'.cell? ⟨w1.heap.size,2,ϋ⟩=ϊ (μ ύ):=λx=>x.cell (qq I.o) (by have:=qq H.o;omega) (qi I.o 2 rfl)
 clear H;refine QN (λb=>b=w.heap.size+1) W1 4 5 [3,4] ?_;refine jg rfl rfl (qn σ) 151 (.tmp 7) rfl w1.heap.size 0 rfl [ι m,ι 0,ύ] _ (λw' ab=>by obtain⟨x,rfl⟩:=ab;exact Y x) underlying151 rfl ξ ?_;intro K d;go_simp;refine d _ ?_;clear d K
 refine Qs2 ?_
 refine jY rfl rfl ?_;intro K d;refine jw 151 (.tmp 4) (.tmp 18) rfl (w.heap.size+1) 151 _ #[ι m,ι 0,ύ] rfl rfl (qr N.o 1) ξ rfl (all_oneCell_toArray Z5) ?_;refine⟨qn (((qk.refl (λb=>b=w.heap.size+1) W1).drewN 1).row (g:=w.heap.size+1) rfl _), ?_⟩;go_simp;refine d _ _ ?_;clear d K
 (refine Qe ?_;intro K d)
 refine d _ _ ?_;clear d K;refine qD ?_;go_wp2;refine bodyPost_ret (v:= .tuple #[θ #[ι m,ι 0,ύ],ύ]) (yN results176 _ _ (w.heap.size+1) 151 #[ι m,ι 0,ύ] _ _ rfl rfl (xh (qr N.o 1) _) underlying151 rfl ξ) rfl ?_;exact⟨rfl,(xt _ _ _).to_more (aa.o.dr 1) (λk e=>by rw[e];exact K4 _)⟩
def EM (m r:Int) (ad:0<=r) (ae:r<=10) (q:Int) (b:Bool) (aa:r+1=q) (Y:(q==m)=b) (w:World):Calls prog 176 #[θ #[ι m,ι r,ύ],ύ] w λe w'=>e= .returned (.tuple #[θ #[ι m,ι q,b],b])/\qh w w':=by
 have I:=ZX m r ύ ad ae;rw[aa,Y] at I;have I:=κ I;clear aa Y
 go_enter func176,ntmps176
 go_wp2_with (refine(I.o _).mono ?_;rintro e w1 ⟨rfl,N⟩;have H:Hid (w1.heap[w.heap.size+1]? =ϊ (.cells #[ι 0,ι 0,ύ] 151 (0,0))):=κ (qj N (qH η));have U:Hid (qh w w1):=κ ((Z0.al _).trans N);clear N)
 obtain⟨W1,G⟩:=ν (w1.alloc (.cells #[ι m,ι q,b] 151));have ac:Hid (qh w W1):=κ (by rw[<-G];exact U.o.al _);have O:Hid (W1.heap[w.heap.size+1]? =ϊ (.cells #[ι 0,ι 0,ύ] 151 (0,0))):=κ (by rw[<-G];exact qv H.o _);have J:Hid (W1.heap[w1.heap.size]? =ϊ (.cells #[ι m,ι q,b] 151 (0,0))):=κ (by rw[<-G];exact qp w1 _);rw[G];clear G U;have ab: ∀x:qC (λb=>b=w.heap.size+1) W1,x.w'.rangeAt w1.heap.size 0 [ι m,ι q,b]:=λx=>jQ (x.h.blk J.o (by have:=qq H.o;omega))
 have ag: ∀x:qC (λb=>b=w.heap.size+1) W1,x.w'.cell? ⟨w1.heap.size,2,ϋ⟩=ϊ (μ b):=λx=>x.cell (qq J.o) (by have:=qq H.o;omega) (qi J.o 2 rfl)
 clear H;refine QN (λb=>b=w.heap.size+1) W1 4 5 [3,4] ?_;refine jg rfl rfl (qn σ) 151 (.tmp 7) rfl w1.heap.size 0 rfl [ι m,ι q,b] _ (λw' af=>by obtain⟨x,rfl⟩:=af;exact ab x) underlying151 rfl ξ ?_;intro K d;go_simp;refine d _ ?_;clear d K
 refine Qs2 ?_
 refine jY rfl rfl ?_;intro K d;refine jw 151 (.tmp 4) (.tmp 18) rfl (w.heap.size+1) 151 _ #[ι m,ι q,b] rfl rfl (qr O.o 1) ξ rfl (all_oneCell_toArray Z5) ?_;refine⟨qn (((qk.refl (λb=>b=w.heap.size+1) W1).drewN 1).row (g:=w.heap.size+1) rfl _), ?_⟩;go_simp;refine d _ _ ?_;clear d K
 (refine Qe ?_;intro K d)
 refine d _ _ ?_;clear d K;refine qD ?_;go_wp2;refine bodyPost_ret (v:= .tuple #[θ #[ι m,ι q,b],b]) (yN results176 _ _ (w.heap.size+1) 151 #[ι m,ι q,b] _ _ rfl rfl (xh (qr O.o 1) _) underlying151 rfl ξ) rfl ?_;exact⟨rfl,(xt _ _ _).to_more (ac.o.dr 1) (λk e=>by rw[e];exact K4 _)⟩
def Iq {P:Program} {J:Func} {p u:Tmp} {d G:TypeId} (h:J.results= #[.cell p d,.cell u G]) (tmps:Array Value) (w:World) (g g':Nat) (t t':TypeId) (cs cs':Array Value) (H I:TypeDesc)
  (ab:tmps.getD p undef= γ g) (ad:tmps.getD u undef= γ g') (U:w.heap[g]? =ϊ (.cells cs t (0,0))) (Y:w.heap[g']? =ϊ (.cells cs' t' (0,0)))
  (af:P.underlying d=ϊ H) (N:(match H with | .struct _ | .array _ _=>ό | _=>ύ)=ό) (hi:(P.info? d).map (·.size)=ϊ cs.size)
  (ag:P.underlying G=ϊ I) (O:(match I with | .struct _ | .array _ _=>ό | _=>ύ)=ό) (aa:(P.info? G).map (·.size)=ϊ cs'.size):
  (results J tmps).run P w= .ok (.tuple #[θ cs,θ cs']) w:=by
 have ac:tmps[p]?.getD undef= γ g:=by simpa using ab
 have ae:tmps[u]?.getD undef= γ g':=by simpa using ad
 simp[results,h,ac,ae,asAddr,run_loadVar_row w g t d cs (0,0) H U af N hi,run_loadVar_row w g' t' G cs' (0,0) I Y ag O aa]
structure RwS where
 src:Int
 sq:Int
 st:Int
 any:Bool
 last:Int
 shift:Int
def shL (s:RwS) (t:Int) (first:Bool):Int:=if s.any then (if first then (s.last+3000-t)%4294967296 else s.shift) else (s.st-t)%4294967296
def CK (src sq st d N:Int) (any first:Bool) (I:Bool) (J q t O:Int) (w:World) (X:Int) (G:shL ⟨src,sq,st,any,d,N⟩ t first=X):
    Calls prog 257 #[θ #[ω src,φ sq,ω st,any,ω d,ω N],θ #[μ I,υ J,φ q,ω t,ω O],first] w
      λe w'=>e= .returned (θ #[μ I,υ J,φ sq,ω ((t+X)%4294967296),ω src,ω X])/\qh w w':=by
  cases any with
  | false=>
    obtain rfl:X=(st-t)%4294967296:=by rw[<-G];rfl
    clear G
    have H:(t+(st-t)%4294967296)%4294967296=(t+(st-t))%4294967296:=by omega
    rw[H]
    clear H
    go_enter func257,ntmps257
    go_wp2
    refine bodyPost_ret (v:= θ #[μ I,υ J,φ sq,ω ((t+(st-t))%4294967296),ω src,ω ((st-t)%4294967296)]) (by simp[results,results257,go_sem]) rfl ?_
    exact⟨rfl,ρ⟩
  | true=>
   cases first with
   | true=>
    obtain rfl:X=(d+3000-t)%4294967296:=by rw[<-G];rfl
    clear G
    have H:(t+(d+3000-t)%4294967296)%4294967296=(t+(d+3000-t))%4294967296:=by omega
    rw[H]
    clear H
    go_enter func257,ntmps257
    go_wp2
    refine bodyPost_ret (v:= θ #[μ I,υ J,φ sq,ω ((t+(d+3000-t))%4294967296),ω src,ω ((d+3000-t)%4294967296)]) (by simp[results,results257,go_sem]) rfl ?_
    exact⟨rfl,ρ⟩
   | false=>
    obtain rfl:X=N:=by rw[<-G];rfl
    clear G
    go_enter func257,ntmps257
    go_wp2
    refine bodyPost_ret (v:= θ #[μ I,υ J,φ sq,ω ((t+X)%4294967296),ω src,ω X]) (by simp[results,results257,go_sem]) rfl ?_
    exact⟨rfl,ρ⟩
def CY (src sq st N U:Int) (any first:Bool) (H:Bool) (I q t an:Int) (w:World) (X:Int) (ai:shL ⟨src,sq,st,any,N,U⟩ t first=X) (Z:Int) (aj:(t+X)%4294967296=Z) (Q:Int) (ah:(sq+1)%65536=Q):
  Calls prog 201 #[θ #[ω src,φ sq,ω st,any,ω N,ω U],θ #[μ H,υ I,φ q,ω t,ω an],first] w
   λe w'=>e= .returned (.tuple #[θ #[ω src,φ Q,ω st,ό,ω Z,ω X],θ #[μ H,υ I,φ sq,ω Z,ω src]])/\qh w w':=by
 have Y:=λw=>CK src sq st N U any first H I q t an w X ai
 rw[aj] at Y;have Y:=κ Y;have af:=κ ah;clear ai aj ah
 go_enter func201,ntmps201
 go_wp2_with (refine(Y.o _).mono ?_;rintro e w1 ⟨rfl,O⟩;have d:Hid (w1.heap[w.heap.size]? =ϊ (.cells #[ω src,φ sq,ω st,any,ω N,ω U] 149 (0,0))):=κ (qj O (by repeat (first | exact qH η | refine qv ?_ _)));have ac:Hid (w1.heap[w.heap.size+2]? =ϊ (.cells #[ω 0,φ 0,ω 0,ύ,ω 0,ω 0] 149 (0,0))):=κ (qj O (by repeat (first | exact qH η | refine qv ?_ _)));have aa:Hid (w1.heap[w.heap.size+3]? =ϊ (.cells #[μ ύ,υ 0,φ 0,ω 0,ω 0] 60 (0,0))):=κ (qj O (by repeat (first | exact qH η | refine qv ?_ _)));have ag:Hid (qh w w1):=κ ((((qh.refl w).al _ |>.al _ |>.al _ |>.al _)).trans O);clear O;have aE:w.heap.size<w1.heap.size:=qq d.o;have aA:w1.cell? ⟨w.heap.size,1,ϋ⟩=ϊ (φ sq):=qi d.o 1 rfl;have aB:w1.cell? ⟨w.heap.size,3,ϋ⟩=ϊ (μ any):=qi d.o 3 rfl;have aC:w1.cell? ⟨w.heap.size,4,ϋ⟩=ϊ (ω N):=qi d.o 4 rfl;have aD:w1.cell? ⟨w.heap.size,5,ϋ⟩=ϊ (ω U):=qi d.o 5 rfl;have av:w1.frozen? ⟨w.heap.size,1,ϋ⟩=ύ:=ql d.o 1;have aw:w1.frozen? ⟨w.heap.size,3,ϋ⟩=ύ:=ql d.o 3;have ax:w1.frozen? ⟨w.heap.size,4,ϋ⟩=ύ:=ql d.o 4;have ay:w1.frozen? ⟨w.heap.size,5,ϋ⟩=ύ:=ql d.o 5)
 have am:IntKind.u16.wrap (sq+1)=Q:=af.o;rw[am];obtain⟨W1,J⟩:=ν ((((((w1.setCell ⟨w.heap.size,1,ϋ⟩ (φ Q)).setCell ⟨w.heap.size,3,ϋ⟩ (μ ό)).setCell ⟨w.heap.size,4,ϋ⟩ (ω Z)).setCell ⟨w.heap.size,5,ϋ⟩ (ω X)).alloc (.cells #[μ H,υ I,φ sq,ω Z,ω src,ω X] 429)));have ar:Hid (qh w W1):=κ (by rw[<-J];exact((((ag.o.st (ϕ _) _).st (ϕ _) _).st (ϕ _) _).st (ϕ _) _).al _);have au:Hid (W1.heap[w.heap.size]? =ϊ (.cells #[ω src,φ Q,ω st,ό,ω Z,ω X] 149 (0,0))):=κ (by rw[<-J];exact qv (qF (qt (qt (qt (qt d.o 1 _) 3 _) 4 _) 5 _) rfl) _);have ad:Hid (W1.heap[w.heap.size+2]? =ϊ (.cells #[ω 0,φ 0,ω 0,ύ,ω 0,ω 0] 149 (0,0))):=κ (by rw[<-J];exact qv (qs (qs (qs (qs ac.o ⟨w.heap.size,1,ϋ⟩ _ (by show w.heap.size+2≠w.heap.size;omega)) ⟨w.heap.size,3,ϋ⟩ _ (by show w.heap.size+2≠w.heap.size;omega)) ⟨w.heap.size,4,ϋ⟩ _ (by show w.heap.size+2≠w.heap.size;omega)) ⟨w.heap.size,5,ϋ⟩ _ (by show w.heap.size+2≠w.heap.size;omega)) _);have ae:Hid (W1.heap[w.heap.size+3]? =ϊ (.cells #[μ ύ,υ 0,φ 0,ω 0,ω 0] 60 (0,0))):=κ (by rw[<-J];exact qv (qs (qs (qs (qs aa.o ⟨w.heap.size,1,ϋ⟩ _ (by show w.heap.size+3≠w.heap.size;omega)) ⟨w.heap.size,3,ϋ⟩ _ (by show w.heap.size+3≠w.heap.size;omega)) ⟨w.heap.size,4,ϋ⟩ _ (by show w.heap.size+3≠w.heap.size;omega)) ⟨w.heap.size,5,ϋ⟩ _ (by show w.heap.size+3≠w.heap.size;omega)) _);have ao:Hid (W1.heap[w1.heap.size]? =ϊ (.cells #[μ H,υ I,φ sq,ω Z,ω src,ω X] 429 (0,0))):=κ (by rw[<-J];exact qH η);have aF:w.heap.size+3<w1.heap.size:=qq aa.o;rw[J];clear J ag d ac aa aA aB aC aD av aw ax ay am af;have ap: ∀x:qC (λb=>b=w.heap.size+2∨b=w.heap.size+3) W1,x.w'.rangeAt w.heap.size 0 [ω src,φ Q,ω st,ό,ω Z,ω X]:=λx=>jQ (x.h.blk au.o τ)
 have aq: ∀x:qC (λb=>b=w.heap.size+2∨b=w.heap.size+3) W1,x.w'.rangeAt w1.heap.size 0 [μ H,υ I,φ sq,ω Z,ω src]:=λx=>by
  have:=jQ (cs:=[μ H,υ I,φ sq,ω Z,ω src,ω X]) (x.h.blk ao.o τ);intro j v ak;refine this j v ?_;have az:=(ϟ.1 ak).1;rw[<-ak];exact ϻ (l₂:=[ω X]) az
 refine QN (λb=>b=w.heap.size+2∨b=w.heap.size+3) W1 4 5 [3,4] ?_;refine jg rfl rfl (qn σ) 149 (.tmp 3) rfl w.heap.size 0 rfl [ω src,φ Q,ω st,ό,ω Z,ω X] _ (λw' ab=>by obtain⟨x,rfl⟩:=ab;exact ap x) underlying149 rfl ξ ?_;intro K G;go_simp;refine G _ ?_;clear G K
 refine Qs1 ?_
 refine jg rfl rfl (qn σ) 60 (.tmp 26) rfl w1.heap.size 0 rfl [μ H,υ I,φ sq,ω Z,ω src] _ (λw' ab=>by obtain⟨x,rfl⟩:=ab;exact aq x) underlying60 rfl ξ ?_;intro K G;go_simp;refine G _ ?_;clear G K;refine jY rfl rfl ?_;intro K G;refine jw 149 (.tmp 6) (.tmp 25) rfl (w.heap.size+2) 149 _ #[ω src,φ Q,ω st,ό,ω Z,ω X] rfl rfl (qr ad.o 1) ξ rfl (all_oneCell_toArray Z5) ?_;refine⟨qn (((qk.refl (λb=>b=w.heap.size+2∨b=w.heap.size+3) W1).drewN 1).row (g:=w.heap.size+2) (ϐ rfl) _), ?_⟩;go_simp;refine G _ _ ?_;clear G K;refine yk rfl rfl ζ ?_;intro K G;refine jw 60 (.tmp 7) (.tmp 27) rfl (w.heap.size+3) 60 _ #[μ H,υ I,φ sq,ω Z,ω src] rfl rfl (qZ (qr ae.o 1) _ τ) ξ rfl (all_oneCell_toArray Z5) ?_;refine⟨trivial, ?_⟩;go_simp;refine G _ _ ?_;clear G K;refine qD ?_;go_wp2;refine bodyPost_ret (v:= .tuple #[θ #[ω src,φ Q,ω st,ό,ω Z,ω X],θ #[μ H,υ I,φ sq,ω Z,ω src]]) (Iq results201 _ _ (w.heap.size+2) (w.heap.size+3) 149 60 #[ω src,φ Q,ω st,ό,ω Z,ω X] #[μ H,υ I,φ sq,ω Z,ω src] _ _ rfl rfl (qZ (xh (qr ad.o 1) _) _ τ) (xh (qZ (qr ae.o 1) _ τ) _) underlying149 rfl ξ underlying60 rfl ξ) rfl ?_;exact⟨rfl,(xt _ _ _).to_more ((xt _ _ _).to_more (ar.o.dr 1) (λk e=>by rw[e];exact G0 _ _)) (λk e=>by rw[e];exact G0 _ _)⟩
structure ItS where
 id:Int
 layer:Int
 key:Bool
 pk:Pk
structure LnS where
 room:Nat
 A:List ItS
 B:List (ItS×Bool)
 C:List (Int×List Int)
 W:List (Int×List Int)
 wanted:Bool
 cur:Int
 tgt:Int
 rw:RwS
 most:Int
 row:Int
 gone:Bool
def Y0 (room:Nat) (most src sq st:Int):LnS:=⟨room,[],[],[],[],ύ,0,0,⟨src,sq,st,ύ,0,0⟩,most,0,ύ⟩
def vf (s:LnS) (x:ItS):LnS×Int×Bool:=if s.A.length<s.room then ({s with A:=s.A++[x]},0,ύ) else ({s with A:=s.A.tail++[x]},(s.A.head?.map (·.id)).getD 0,ό)
def jL (s:LnS) (x:ItS):LnS×Int×Bool×Int:=
 if (je x.layer&&jD x.pk)=ύ then (s,0,ύ,1) else if s.gone then (s,0,ύ,7) else if s.wanted=ύ then (s,0,ύ,5) else ((vf s x).1,(vf s x).2.1,(vf s x).2.2,0)
def xa (cur tgt layer:Int) (key:Bool):Int×Int×Bool:=
 if layer=cur then (cur,0,ύ) else if layer=tgt then (if key then (layer,0,ό) else (cur,5,ύ)) else (cur,4,ύ)
def zQ (s:LnS) (n:Int):Bool:=if n=1 then decide (0<s.A.length)&&decide (¬s.B.length=s.room) else if n=2 then decide (0<s.B.length) else if n=3 then decide (0<s.C.length) else ύ
def qP (s:LnS):LnS×Int×Int×Bool:=
 if zQ s 1=ύ then (s,0,0,ύ) else
 match s.A with
 | []=>(s,0,0,ύ)
 | x::A=>({s with A:=A,cur:=(xa s.cur s.tgt x.layer x.key).1,B:=if (xa s.cur s.tgt x.layer x.key).2.1=0 then s.B++[(x,(xa s.cur s.tgt x.layer x.key).2.2)] else s.B},x.id,(xa s.cur s.tgt x.layer x.key).2.1,ό)
def vX (r:RwS) (p:Pk) (first:Bool):Pk:={p with sq:=r.sq,st:=(p.st+shL r p.st first)%4294967296,sc:=r.src}
def uC (r:RwS) (p:Pk) (first:Bool):RwS:=⟨r.src,(r.sq+1)%65536,r.st,ό,(p.st+shL r p.st first)%4294967296,shL r p.st first⟩
def vL (s:LnS) (o:Int×List Int):LnS×Int×Bool:=if s.C.length<s.room then ({s with C:=s.C++[o]},0,ύ) else ({s with C:=s.C.tail++[o]},(s.C.head?.map (·.1)).getD 0,ό)
def qN (s:LnS):LnS×Int×Bool×Bool:=
 match s.B with
 | []=>(s,0,ύ,ύ)
 | (x,f)::B=>((vL {s with B:=B,rw:=uC s.rw x.pk f} (x.id,pkB (vX s.rw x.pk f))).1,(vL {s with B:=B,rw:=uC s.rw x.pk f} (x.id,pkB (vX s.rw x.pk f))).2.1,(vL {s with B:=B,rw:=uC s.rw x.pk f} (x.id,pkB (vX s.rw x.pk f))).2.2,ό)
def jk (s:LnS) (acc:Bool):Int×Bool×Bool:=if s.gone then (s.row,ό,ύ) else if acc then (0,ύ,ύ) else (s.row+1,s.row+1==s.most,s.row+1==s.most)
def qJ (s:LnS) (acc:Bool):LnS×Int×Int×Bool:=
 match s.C with
 | []=>(s,0,0,ύ)
 | o::C=>
  if (jk s acc).2.2 then ({s with A:=[],B:=[],C:=[],W:=if acc then s.W++[o] else s.W,row:=(jk s acc).1,gone:=(jk s acc).2.1},o.1,7,ό)
  else ({s with C:=if acc then C else o::C,W:=if acc then s.W++[o] else s.W,row:=(jk s acc).1,gone:=(jk s acc).2.1},o.1,if acc then 1 else 0,ό)
def jA (s:LnS) (n:Int):LnS×Int:=
 if je n=ύ then (s,1) else if s.gone then (s,7) else ({s with wanted:=ό,cur:=if s.wanted then s.cur else -1,tgt:=n},0)
def zR (p:α->β->Prop):List α->List β->Prop
 | [],[]=>True
 | a::l,b::m=>p a b/\zR p l m
 | _,_=>False
section
variable {α β:Type} {p p':α->β->Prop}
def zR.len: ∀{l:List α} {m:List β},zR p l m->l.length=m.length
 | [],[],_=>rfl
 | _::_,_::_,h=>by simp[zR.len h.2]
 | [],_::_,h=>h.elim
 | _::_,[],h=>h.elim
def zR.mono (k: ∀a b,p a b->p' a b): ∀{l:List α} {m:List β},zR p l m->zR p' l m
 | [],[],_=>trivial
 | _::_,_::_,h=>⟨k _ _ h.1,zR.mono k h.2⟩
 | [],_::_,h=>h.elim
 | _::_,[],h=>h.elim
def zR.snoc: ∀{l:List α} {m:List β} {a:α} {b:β},zR p l m->p a b->zR p (l++[a]) (m++[b])
 | [],[],_,_,_,k=>⟨k,trivial⟩
 | _::_,_::_,_,_,h,k=>⟨h.1,zR.snoc h.2 k⟩
 | [],_::_,_,_,h,_=>h.elim
 | _::_,[],_,_,h,_=>h.elim
def zR.uncons {l:List α} {b:β} {m:List β} (h:zR p l (b::m)): ∃a l',l=a::l'/\p a b/\zR p l' m:=by
 cases l with
 | nil=>exact h.elim
 | cons a l'=>exact⟨a,l',rfl,h.1,h.2⟩
def zR.nil_r {l:List α} (h:zR p l ([]:List β)):l=[]:=by
 cases l with
 | nil=>rfl
 | cons a l'=>exact h.elim
def zR.mem {l:List α} {m:List β} (h:zR p l m): ∀a∈l,∃b∈m,p a b:=by
 induction l generalizing m with
 | nil=>intro a d;simp at d
 | cons c l ih=>
  cases m with
  | nil=>exact h.elim
  | cons b m=>
   intro a d;rcases ϫ.1 d with rfl | d
   ·exact⟨b,η,h.1⟩
   ·obtain⟨G,H,I⟩:=ih h.2 a d;exact⟨G,by simp[H],I⟩
end
def itC (x:ItS) (vs ve vp:Value):List Value:=[.int .i64 x.id,.int .i64 x.layer,.bool x.key,.bool x.pk.mr,.int .u8 x.pk.ty,.int .u16 x.pk.sq,.int .u32 x.pk.st,.int .u32 x.pk.sc,vs,.bool x.pk.has,.int .u16 x.pk.pr,ve,vp]
def RIt:qO ItS:=λw cs x=> ∃vs ve vp,cs=itC x vs ve vp/\PkS w vs ve vp x.pk/\ud x.pk/\jD x.pk=ό
def RCh:qO (ItS×Bool):=λw cs x=> ∃vs ve vp,cs=itC x.1 vs ve vp++[.bool x.2]/\PkS w vs ve vp x.1.pk/\ud x.1.pk/\jD x.1.pk=ό
def ROu:qO (Int×List Int):=λw cs o=> ∃v,cs=[.int .i64 o.1,v]/\SlI .u8 w v o.2/\Byt o.2/\o.2.length<=200
def IF:gj ROu:=λ_ _ _ _ m ⟨v,d,G,H⟩=>⟨v,d,G.keep m,H⟩
def jv.chosen {x:ItS} (f:Bool) (h:jv RIt D w c x):jv RCh D w (c++[μ f]) (x,f):=λw' a=>by
 obtain⟨J,I,vp,rfl,d,G,H⟩:=h w' a;exact⟨J,I,vp,rfl,d,G,H⟩
def RgR (n tr te:Nat) (R:qO α) (D:Nat->Prop) (w:World) (r a room:Nat) (l:List α):Prop:=
 ∃f q ci co cd cg css,qU n tr te w r a room f q ci co cd cg css/\zR (jv R D w) q l
section
variable {α:Type} {n tr te:Nat} {R:qO α} {D D':Nat->Prop} {w w':World} {r a room:Nat} {l:List α}
def RgR.fit (h:RgR n tr te R D w r a room l):l.length<=room/\1<=room/\room<=8/\r<w.heap.size/\a<w.heap.size:=by
 obtain⟨f,q,J,N,H,I,css,d,G⟩:=h;have:=d.fits;have:=G.len;have:=d.pos;exact⟨τ,τ,τ,qq d.ring,qq d.row⟩
def RgR.step (h:RgR n tr te R D w r a room l) (k:qk S w w') (aa: ¬S r) (Y: ¬S a) (O: ∀b,S b->D b) (U: ∀b,D' b->D b∨w'.heap.size<=b):RgR n tr te R D' w' r a room l:=by
 obtain⟨f,q,H,I,d,G,css,J,N⟩:=h;exact⟨f,q,H,I,d,G,css,J.away k aa Y,N.mono λc y ab=>(ab.step (k.mono O)).other U⟩
end
def Γj (x:ItS) (a:Option Addr) (b:Nat) (c:Option Addr) (d:Nat) (e:Option Addr) (f:Nat):Mm:=.o
instance (x:ItS) (a:Option Addr) (b:Nat) (c:Option Addr) (d:Nat) (e:Option Addr) (f:Nat):CoeDep Mm (Γj x a b c d e f) (List Value):=⟨[ι x.id,ι x.layer,μ x.key,μ x.pk.mr,υ x.pk.ty,φ x.pk.sq,ω x.pk.st,ω x.pk.sc,δ a x.pk.ss.length b,μ x.pk.has,φ x.pk.pr,δ c x.pk.ex.length d,δ e x.pk.pl.length f]⟩
instance (x:ItS) (a:Option Addr) (b:Nat) (c:Option Addr) (d:Nat) (e:Option Addr) (f:Nat):CoeDep Mm (Γj x a b c d e f) (Array Value):=⟨((Γj x a b c d e f):List Value).toArray⟩
instance (x:ItS) (a:Option Addr) (b:Nat) (c:Option Addr) (d:Nat) (e:Option Addr) (f:Nat):CoeDep Mm (Γj x a b c d e f) Value:=⟨θ (Γj x a b c d e f)⟩
def Γk (x:ItS) (a:Option Addr) (b:Nat) (c:Option Addr) (d:Nat) (e:Option Addr) (f:Nat) (g:Bool):Mm:=.o
instance (x:ItS) (a:Option Addr) (b:Nat) (c:Option Addr) (d:Nat) (e:Option Addr) (f:Nat) (g:Bool):CoeDep Mm (Γk x a b c d e f g) (List Value):=⟨[ι x.id,ι x.layer,μ x.key,μ x.pk.mr,υ x.pk.ty,φ x.pk.sq,ω x.pk.st,ω x.pk.sc,δ a x.pk.ss.length b,μ x.pk.has,φ x.pk.pr,δ c x.pk.ex.length d,δ e x.pk.pl.length f,μ g]⟩
instance (x:ItS) (a:Option Addr) (b:Nat) (c:Option Addr) (d:Nat) (e:Option Addr) (f:Nat) (g:Bool):CoeDep Mm (Γk x a b c d e f g) (Array Value):=⟨((Γk x a b c d e f g):List Value).toArray⟩
instance (x:ItS) (a:Option Addr) (b:Nat) (c:Option Addr) (d:Nat) (e:Option Addr) (f:Nat) (g:Bool):CoeDep Mm (Γk x a b c d e f g) Value:=⟨θ (Γk x a b c d e f g)⟩
def Jk (v:Value) (l:List Int) (w:World) (h:SlI .u8 w v l) (al:l.length<=1000000):
  Calls prog 50 #[v] w λe w'=>(∃v',e= .returned v'/\w'.ownsRow w.heap.size 5 1 v' l.length (l.map (Value.int .u8)))/\qh w w':=by
 obtain⟨aj,hi,ag,ah,ai⟩:=info_parts (P:=prog) (e:=5) (z:= υ 0) (size:=1) (bytes:=1) ξ;have G:=κ h;obtain⟨ak,cap,rfl,H,I,J,N,d⟩:=h;cases ak with
 | none=>
  obtain rfl:cap=0:=d rfl;obtain rfl:l=[]:=Ϥ τ;clear G H I J N d;have af:=λw=>Lib.run_eql_slice_nil (P:=prog) w 35 5 ϋ 0 0 0 0 underlying35
  go_enter func50,ntmps50
  go_wp2;go_ret;exact⟨⟨_,rfl,World.ownsRow_nil w _ _ _⟩,qh.refl _⟩
 | some ad=>
  clear H I J N d;have Y:(w.alloc (.cells #[] 5)).ownsRow w.heap.size 5 1 (δ (ϊ ⟨w.heap.size,0,ϋ⟩) 0 0) ([]:List Int).length (([]:List Int).map (Value.int .u8)):=World.ownsRow_lit (e:=5) (size:=1) (base:=w.heap.size) w #[] 0 (ϕ _) (by unfold maxLen;omega) rfl;have ab:=κ Y;clear Y;have af:=λw=>Lib.run_eql_slice_nil (P:=prog) w 35 5 (ϊ ad) l.length cap 0 0 underlying35
  go_enter func50,ntmps50
  go_wp2_with (at_builtin;refine xJ _ rfl (.tmp 5) (.tmp 6) 35 rfl w.heap.size 5 aj (υ 0) 1 underlying35 hi ag ah ai rfl _ .u8 [] rfl ab.o _ l rfl (G.o.keep Z0) (by simp;omega) ζ (qh.alloc w _).size ?_;intro am w2 U O;have ac:=κ U;have aa:Hid (qk (λb=>(δ (ϊ ⟨w.heap.size,0,ϋ⟩) 0 0).ownBlock=ϊ b) (w.alloc (.cells #[] 5)) w2):=κ (qk.of_grown O);clear U O)
  go_ret;refine⟨⟨_,rfl,by simpa using ac.o⟩, ?_⟩;exact((qk.of_more (S:=λb=>b=w.heap.size) (qh.alloc w _)).trans (aa.o.mono λb ae=>by injection ae with e;exact e.symm)).to_more (qh.refl _) (λk e=>by rw[e];exact ϕ _)
def Ch (v:Value) (l:List Int) (w:World) (h:SlI .u32 w v l) (al:l.length<=1000000):
  Calls prog 49 #[v] w λe w'=>(∃v',e= .returned v'/\w'.ownsRow w.heap.size 38 1 v' l.length (l.map (Value.int .u32)))/\qh w w':=by
 obtain⟨aj,hi,ag,ah,ai⟩:=info_parts (P:=prog) (e:=38) (z:= ω 0) (size:=1) (bytes:=4) ξ;have G:=κ h;obtain⟨ak,cap,rfl,H,I,J,N,d⟩:=h;cases ak with
 | none=>
  obtain rfl:cap=0:=d rfl;obtain rfl:l=[]:=Ϥ τ;clear G H I J N d;have af:=λw=>Lib.run_eql_slice_nil (P:=prog) w 61 38 ϋ 0 0 0 0 underlying61
  go_enter func49,ntmps49
  go_wp2;go_ret;exact⟨⟨_,rfl,World.ownsRow_nil w _ _ _⟩,qh.refl _⟩
 | some ad=>
  clear H I J N d;have Y:(w.alloc (.cells #[] 38)).ownsRow w.heap.size 38 1 (δ (ϊ ⟨w.heap.size,0,ϋ⟩) 0 0) ([]:List Int).length (([]:List Int).map (Value.int .u32)):=World.ownsRow_lit (e:=38) (size:=1) (base:=w.heap.size) w #[] 0 (ϕ _) (by unfold maxLen;omega) rfl;have ab:=κ Y;clear Y;have af:=λw=>Lib.run_eql_slice_nil (P:=prog) w 61 38 (ϊ ad) l.length cap 0 0 underlying61
  go_enter func49,ntmps49
  go_wp2_with (at_builtin;refine xJ _ rfl (.tmp 5) (.tmp 6) 61 rfl w.heap.size 38 aj (ω 0) 4 underlying61 hi ag ah ai rfl _ .u32 [] rfl ab.o _ l rfl (G.o.keep Z0) (by simp;omega) ζ (qh.alloc w _).size ?_;intro am w2 U O;have ac:=κ U;have aa:Hid (qk (λb=>(δ (ϊ ⟨w.heap.size,0,ϋ⟩) 0 0).ownBlock=ϊ b) (w.alloc (.cells #[] 38)) w2):=κ (qk.of_grown O);clear U O)
  go_ret;refine⟨⟨_,rfl,by simpa using ac.o⟩, ?_⟩;exact((qk.of_more (S:=λb=>b=w.heap.size) (qh.alloc w _)).trans (aa.o.mono λb ae=>by injection ae with e;exact e.symm)).to_more (qh.refl _) (λk e=>by rw[e];exact ϕ _)
end Go.Proofs.YtlmllmonabafjaaGreatDoor
