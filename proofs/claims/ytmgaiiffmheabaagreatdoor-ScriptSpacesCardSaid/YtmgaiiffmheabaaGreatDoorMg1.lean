/- x -/
import Derived.Test.YtmgaiiffmheabaaGreatDoorMg0
import Derived.Handy
import Derived.Test.YtmgaiiffmheabaaGreatDoorRows
import Derived.Maps.AppendAt
import Derived.Lib.LazyBuf
import Derived.ProofKit
import Derived.OpenShut
import Derived.Lib.SmallJoins
import Derived.Deep.Slices
import Derived.Deep.Fields
import Derived.IntWalk
import Derived.Deep.Cut
import Derived.Deep.CutRange
import Derived.Deep.CutBlock
import Derived.Laws.CopyRow
import Derived.Laws.Rows
import Derived.Laws.Tables
import Derived.Laws.MakeOwn
import Derived.Deep.MidRow
import Derived.Lib.SliceRun
namespace Go.Proofs.YtmgaiiffmheabaaGreatDoor
open Go.Value renaming bool->μ,slice->δ,pointer->π,agg->θ
open Go.IntKind renaming i64->ι,u8->υ,u16->φ,u32->ω,i32->χ,u64->ψ
set_option linter.all false
open Go.RowKit
set_option maxRecDepth 100000
open Option renaming some->ϊ,none->ϋ
open Bool renaming true->ό,false->ύ
open _root_.Go.Proofs.Tryz
set_option maxHeartbeats 8000000
variable {w w':World} {l L:List Int} {C D S:Nat->Prop} {v:Value} {Q:Exit->Act->World->Prop} {P:Program} {R W n base b g cap room B:Nat} {e:Int} {α β:Type} {a:Act} {xs c z cs:List Value} {ops:Array Oper} {K:Act->World->Prop} {rest:List Oper} {k:IntKind} {T css:List (List Value)} {G d:Option Addr} {p:Prop} {I:Func}
def τ {P:Prop} (h:P:=by omega):P:=h
def ξ {P:Prop} (h:P:=by kernel_rfl):P:=h
def ζ {P:Prop} (h:P:=by decide):P:=h
def η {P:Prop} (h:P:=by simp):P:=h
def κ (h:p):RowKit.Hid p:=h
def ν {α : Sort _} (a : α) : ∃ x, a = x := ⟨_, rfl⟩
def ρ (h : ql w w' := by repeat (first | exact ql.refl _ | assumption | refine ql.dr ?_ _ | refine ql.al ?_ _ | refine ql.st ?_ (by simp) _)) : ql w w' := h
def σ {S : Nat → Prop} (h : jt S w w' := by repeat (first | exact jt.refl _ _ | assumption | refine jt.drewN ?_ _ | refine jt.set ?_ (by first | rfl | exact Or.inl rfl | exact Or.inr rfl) _)) : jt S w w' := h
def _root_.Go.RowKit.Hid.o (h : RowKit.Hid p) : p := h
section
variable {w:World} {b t:Nat} {c:List Value} {A B C D E F G H I J K L M N O P Q R S U V:Value}
def β0 (h:w.heap[b]?=some (.cells (A::c).toArray t (0,0))):w.cell? ⟨b,0,none⟩=some A:=qa h 0 η
def β1 (h:w.heap[b]?=some (.cells (A::B::c).toArray t (0,0))):w.cell? ⟨b,1,none⟩=some B:=qa h 1 η
def β2 (h:w.heap[b]?=some (.cells (A::B::C::c).toArray t (0,0))):w.cell? ⟨b,2,none⟩=some C:=qa h 2 η
def β3 (h:w.heap[b]?=some (.cells (A::B::C::D::c).toArray t (0,0))):w.cell? ⟨b,3,none⟩=some D:=qa h 3 η
def β4 (h:w.heap[b]?=some (.cells (A::B::C::D::E::c).toArray t (0,0))):w.cell? ⟨b,4,none⟩=some E:=qa h 4 η
def β5 (h:w.heap[b]?=some (.cells (A::B::C::D::E::F::c).toArray t (0,0))):w.cell? ⟨b,5,none⟩=some F:=qa h 5 η
def β6 (h:w.heap[b]?=some (.cells (A::B::C::D::E::F::G::c).toArray t (0,0))):w.cell? ⟨b,6,none⟩=some G:=qa h 6 η
def β7 (h:w.heap[b]?=some (.cells (A::B::C::D::E::F::G::H::c).toArray t (0,0))):w.cell? ⟨b,7,none⟩=some H:=qa h 7 η
def β8 (h:w.heap[b]?=some (.cells (A::B::C::D::E::F::G::H::I::c).toArray t (0,0))):w.cell? ⟨b,8,none⟩=some I:=qa h 8 η
def β9 (h:w.heap[b]?=some (.cells (A::B::C::D::E::F::G::H::I::J::c).toArray t (0,0))):w.cell? ⟨b,9,none⟩=some J:=qa h 9 η
def β10 (h:w.heap[b]?=some (.cells (A::B::C::D::E::F::G::H::I::J::K::c).toArray t (0,0))):w.cell? ⟨b,10,none⟩=some K:=qa h 10 η
def β11 (h:w.heap[b]?=some (.cells (A::B::C::D::E::F::G::H::I::J::K::L::c).toArray t (0,0))):w.cell? ⟨b,11,none⟩=some L:=qa h 11 η
def β12 (h:w.heap[b]?=some (.cells (A::B::C::D::E::F::G::H::I::J::K::L::M::c).toArray t (0,0))):w.cell? ⟨b,12,none⟩=some M:=qa h 12 η
def β13 (h:w.heap[b]?=some (.cells (A::B::C::D::E::F::G::H::I::J::K::L::M::N::c).toArray t (0,0))):w.cell? ⟨b,13,none⟩=some N:=qa h 13 η
def β14 (h:w.heap[b]?=some (.cells (A::B::C::D::E::F::G::H::I::J::K::L::M::N::O::c).toArray t (0,0))):w.cell? ⟨b,14,none⟩=some O:=qa h 14 η
def β15 (h:w.heap[b]?=some (.cells (A::B::C::D::E::F::G::H::I::J::K::L::M::N::O::P::c).toArray t (0,0))):w.cell? ⟨b,15,none⟩=some P:=qa h 15 η
def β16 (h:w.heap[b]?=some (.cells (A::B::C::D::E::F::G::H::I::J::K::L::M::N::O::P::Q::c).toArray t (0,0))):w.cell? ⟨b,16,none⟩=some Q:=qa h 16 η
def β17 (h:w.heap[b]?=some (.cells (A::B::C::D::E::F::G::H::I::J::K::L::M::N::O::P::Q::R::c).toArray t (0,0))):w.cell? ⟨b,17,none⟩=some R:=qa h 17 η
def β18 (h:w.heap[b]?=some (.cells (A::B::C::D::E::F::G::H::I::J::K::L::M::N::O::P::Q::R::S::c).toArray t (0,0))):w.cell? ⟨b,18,none⟩=some S:=qa h 18 η
def β19 (h:w.heap[b]?=some (.cells (A::B::C::D::E::F::G::H::I::J::K::L::M::N::O::P::Q::R::S::U::c).toArray t (0,0))):w.cell? ⟨b,19,none⟩=some U:=qa h 19 η
def β20 (h:w.heap[b]?=some (.cells (A::B::C::D::E::F::G::H::I::J::K::L::M::N::O::P::Q::R::S::U::V::c).toArray t (0,0))):w.cell? ⟨b,20,none⟩=some V:=qa h 20 η
end
instance:CoeFun IntKind (λ_=>Int->Value):=⟨.int⟩
instance:Coe Bool Value:=⟨.bool⟩
instance:Coe Unit Value:=⟨λ_=>.slice none 0 0⟩
inductive Mm | o
def γ (b:Nat):Mm:=.o
instance (b:Nat):CoeDep Mm (γ b) Value:=⟨.pointer (some ⟨b,0,none⟩)⟩
def Γa:Mm:=.o
instance:CoeDep Mm Γa (List Value):=⟨[ι 0,ι 0,μ false,μ false,υ 0,φ 0,ω 0,ω 0,δ none 0 0,μ false,φ 0,δ none 0 0,δ none 0 0]⟩
instance:CoeDep Mm Γa (Array Value):=⟨(Γa:List Value).toArray⟩
instance:CoeDep Mm Γa Value:=⟨θ Γa⟩
def Γs:Mm:=.o
instance:CoeDep Mm Γs (List Value):=⟨[ι 0,δ none 0 0]⟩
instance:CoeDep Mm Γs (Array Value):=⟨(Γs:List Value).toArray⟩
instance:CoeDep Mm Γs Value:=⟨θ Γs⟩
def Γb:Mm:=.o
instance:CoeDep Mm Γb (List Value):=⟨[ι 0,ι 0,μ false,μ false,υ 0,φ 0,ω 0,ω 0,δ none 0 0,μ false,φ 0,δ none 0 0,δ none 0 0,μ false]⟩
instance:CoeDep Mm Γb (Array Value):=⟨(Γb:List Value).toArray⟩
instance:CoeDep Mm Γb Value:=⟨θ Γb⟩
def Γc:Mm:=.o
instance:CoeDep Mm Γc (List Value):=⟨[μ false,υ 0,φ 0,ω 0,ω 0,δ none 0 0,μ false,φ 0,δ none 0 0,δ none 0 0]⟩
instance:CoeDep Mm Γc (Array Value):=⟨(Γc:List Value).toArray⟩
instance:CoeDep Mm Γc Value:=⟨θ Γc⟩
def Γd:Mm:=.o
instance:CoeDep Mm Γd (List Value):=⟨[μ false,ω 0,ω 0,ω 0,ω 0,ω 0,ω 0,δ none 0 0]⟩
instance:CoeDep Mm Γd (Array Value):=⟨(Γd:List Value).toArray⟩
instance:CoeDep Mm Γd Value:=⟨θ Γd⟩
def Γe:Mm:=.o
instance:CoeDep Mm Γe (List Value):=⟨[ω 0,υ 0,χ 0,ω 0,ω 0,ω 0,ω 0]⟩
instance:CoeDep Mm Γe (Array Value):=⟨(Γe:List Value).toArray⟩
instance:CoeDep Mm Γe Value:=⟨θ Γe⟩
def Γf:Mm:=.o
instance:CoeDep Mm Γf (List Value):=⟨[ι 0,μ false,ω 0,ω 0,ω 0,ω 0,ω 0,ω 0,δ none 0 0,ι 0,ω 0,ω 0,δ none 0 0,δ none 0 0,υ 0,υ 0,δ none 0 0]⟩
instance:CoeDep Mm Γf (Array Value):=⟨(Γf:List Value).toArray⟩
instance:CoeDep Mm Γf Value:=⟨θ Γf⟩
def Γg:Mm:=.o
instance:CoeDep Mm Γg (List Value):=⟨[ι 0,ω 0,ω 0,δ none 0 0,δ none 0 0]⟩
instance:CoeDep Mm Γg (Array Value):=⟨(Γg:List Value).toArray⟩
instance:CoeDep Mm Γg Value:=⟨θ Γg⟩
def Qo:Nat->Nat->List Nat->List (Nat×Bool)
 | _,0,_=>[]
 | i,k+1,L=>(i,L.elem i)::Qo (i+1) k L
def Qn {id:Nat} {l:List Oper} (w0:World) (T k:Nat) (L:List Nat) {n:List (Nat×Bool)} (h:zU P l T (λw'=> ∃x:qt w0,w'=x.w') (Q .normal) n a (w.drewN 1)) (e:Qo 0 k L=n:=by simp[Qo];exact rfl) (hm:P.follows .mixedOrders=true:=by kernel_rfl) (hB:(Region.noSelect l.toArray&&JG .any l.toArray T n (Array.replicate l.length false)&&decide (n.length=l.length)&&n.all λx=>decide (x.1<l.length))=true:=by kernel_rfl):(Code.region id l.toArray true).wp P Q a w:=zC w0 T n hm hB h
def QN {id:Nat} {l:List Oper} (S:Nat->Prop) (w0:World) (T k:Nat) (L:List Nat) {n:List (Nat×Bool)} (h:zU P l T (λw'=> ∃x:qz S w0,w'=x.w') (Q .normal) n a (w.drewN 1)) (e:Qo 0 k L=n:=by simp[Qo];exact rfl) (hm:P.follows .mixedOrders=true:=by kernel_rfl) (hB:(Region.noSelect l.toArray&&JG .any l.toArray T n (Array.replicate l.length false)&&decide (n.length=l.length)&&n.all λx=>decide (x.1<l.length))=true:=by kernel_rfl):(Code.region id l.toArray true).wp P Q a w:=zp S w0 T n hm hB h
def Ql {P Q:Prop} (k:Q) (h:(Unit->Q)->P:=by intro k;refine jR rfl rfl ?_;intro K hK;unfold jn;go_simp;revert K hK;exact k ()):P:=h (λ_=>k)
def Qe {P Q:Prop} (k:Q) (h:(Unit->Q)->P:=by intro k;refine zY rfl rfl (by decide) ?_;intro K hK;unfold jn;go_simp;revert K hK;exact k ()):P:=h (λ_=>k)
def Qq1 {P Q:Prop} (k:Q) (h:(Unit->Q)->P:=by intro k;(refine qE rfl rfl (qk ρ) ?_;intro K hK;go_big_quiet_op;go_big_quiet_on);exact k ()):P:=h (λ_=>k)
def Qq2 {P Q:Prop} (k:Q) (h:(Unit->Q)->P:=by intro k;(iterate 2 (refine qE rfl rfl (qk ρ) ?_;intro K hK;go_big_quiet_op;go_big_quiet_on));exact k ()):P:=h (λ_=>k)
def Qq3 {P Q:Prop} (k:Q) (h:(Unit->Q)->P:=by intro k;(iterate 3 (refine qE rfl rfl (qk ρ) ?_;intro K hK;go_big_quiet_op;go_big_quiet_on));exact k ()):P:=h (λ_=>k)
def Qq5 {P Q:Prop} (k:Q) (h:(Unit->Q)->P:=by intro k;(iterate 5 (refine qE rfl rfl (qk ρ) ?_;intro K hK;go_big_quiet_op;go_big_quiet_on));exact k ()):P:=h (λ_=>k)
def Qq6 {P Q:Prop} (k:Q) (h:(Unit->Q)->P:=by intro k;(iterate 6 (refine qE rfl rfl (qk ρ) ?_;intro K hK;go_big_quiet_op;go_big_quiet_on));exact k ()):P:=h (λ_=>k)
def Qq7 {P Q:Prop} (k:Q) (h:(Unit->Q)->P:=by intro k;(iterate 7 (refine qE rfl rfl (qk ρ) ?_;intro K hK;go_big_quiet_op;go_big_quiet_on));exact k ()):P:=h (λ_=>k)
def Qq8 {P Q:Prop} (k:Q) (h:(Unit->Q)->P:=by intro k;(iterate 8 (refine qE rfl rfl (qk ρ) ?_;intro K hK;go_big_quiet_op;go_big_quiet_on));exact k ()):P:=h (λ_=>k)
def Qq9 {P Q:Prop} (k:Q) (h:(Unit->Q)->P:=by intro k;(iterate 9 (refine qE rfl rfl (qk ρ) ?_;intro K hK;go_big_quiet_op;go_big_quiet_on));exact k ()):P:=h (λ_=>k)
def NC {P Q:Prop} (k:Q) (h:(Unit->Q)->P:=by intro k;(iterate 10 (refine qE rfl rfl (qk ρ) ?_;intro K hK;go_big_quiet_op;go_big_quiet_on));exact k ()):P:=h (λ_=>k)
def Qs {P Q:Prop} (k:Q) (h:(Unit->Q)->P:=by intro k;(iterate 12 (refine qE rfl rfl (qk ρ) ?_;intro K hK;go_big_quiet_op;go_big_quiet_on));exact k ()):P:=h (λ_=>k)
def qaD {P Q:Prop} (k:Q) (h:(Unit->Q)->P:=by intro k;(iterate 13 (refine qE rfl rfl (qk ρ) ?_;intro K hK;go_big_quiet_op;go_big_quiet_on));exact k ()):P:=h (λ_=>k)
def Ny {P Q:Prop} (k:Q) (h:(Unit->Q)->P:=by intro k;(iterate 19 (refine qE rfl rfl (qk ρ) ?_;intro K hK;go_big_quiet_op;go_big_quiet_on));exact k ()):P:=h (λ_=>k)
def qaC {P Q:Prop} (k:Q) (h:(Unit->Q)->P:=by intro k;(iterate 20 (refine qE rfl rfl (qk ρ) ?_;intro K hK;go_big_quiet_op;go_big_quiet_on));exact k ()):P:=h (λ_=>k)
def NA {P Q:Prop} (k:Q) (h:(Unit->Q)->P:=by intro k;(iterate 21 (refine qE rfl rfl (qk ρ) ?_;intro K hK;go_big_quiet_op;go_big_quiet_on));exact k ()):P:=h (λ_=>k)
def Qs1 {P Q:Prop} (k:Q) (h:(Unit->Q)->P:=by intro k;(refine qE rfl rfl (qi σ) ?_;intro K hK;go_big_quiet_op;go_big_quiet_on);exact k ()):P:=h (λ_=>k)
def Qs2 {P Q:Prop} (k:Q) (h:(Unit->Q)->P:=by intro k;(iterate 2 (refine qE rfl rfl (qi σ) ?_;intro K hK;go_big_quiet_op;go_big_quiet_on));exact k ()):P:=h (λ_=>k)
def Qs3 {P Q:Prop} (k:Q) (h:(Unit->Q)->P:=by intro k;(iterate 3 (refine qE rfl rfl (qi σ) ?_;intro K hK;go_big_quiet_op;go_big_quiet_on));exact k ()):P:=h (λ_=>k)
def Qs4 {P Q:Prop} (k:Q) (h:(Unit->Q)->P:=by intro k;(iterate 4 (refine qE rfl rfl (qi σ) ?_;intro K hK;go_big_quiet_op;go_big_quiet_on));exact k ()):P:=h (λ_=>k)
def Qs5 {P Q:Prop} (k:Q) (h:(Unit->Q)->P:=by intro k;(iterate 5 (refine qE rfl rfl (qi σ) ?_;intro K hK;go_big_quiet_op;go_big_quiet_on));exact k ()):P:=h (λ_=>k)
def Qs6 {P Q:Prop} (k:Q) (h:(Unit->Q)->P:=by intro k;(iterate 6 (refine qE rfl rfl (qi σ) ?_;intro K hK;go_big_quiet_op;go_big_quiet_on));exact k ()):P:=h (λ_=>k)
def Qs7 {P Q:Prop} (k:Q) (h:(Unit->Q)->P:=by intro k;(iterate 7 (refine qE rfl rfl (qi σ) ?_;intro K hK;go_big_quiet_op;go_big_quiet_on));exact k ()):P:=h (λ_=>k)
def Qs8 {P Q:Prop} (k:Q) (h:(Unit->Q)->P:=by intro k;(iterate 8 (refine qE rfl rfl (qi σ) ?_;intro K hK;go_big_quiet_op;go_big_quiet_on));exact k ()):P:=h (λ_=>k)
def Qs9 {P Q:Prop} (k:Q) (h:(Unit->Q)->P:=by intro k;(iterate 9 (refine qE rfl rfl (qi σ) ?_;intro K hK;go_big_quiet_op;go_big_quiet_on));exact k ()):P:=h (λ_=>k)
def Nx {P Q:Prop} (k:Q) (h:(Unit->Q)->P:=by intro k;(iterate 10 (refine qE rfl rfl (qi σ) ?_;intro K hK;go_big_quiet_op;go_big_quiet_on));exact k ()):P:=h (λ_=>k)
def Nz {P Q:Prop} (k:Q) (h:(Unit->Q)->P:=by intro k;(iterate 12 (refine qE rfl rfl (qi σ) ?_;intro K hK;go_big_quiet_op;go_big_quiet_on));exact k ()):P:=h (λ_=>k)
def NE {P Q:Prop} (k:Q) (h:(Unit->Q)->P:=by intro k;(iterate 13 (refine qE rfl rfl (qi σ) ?_;intro K hK;go_big_quiet_op;go_big_quiet_on));exact k ()):P:=h (λ_=>k)
def Qq {P Q:Prop} (k:Q) (h:(Unit->Q)->P:=by intro k;(iterate 14 (refine qE rfl rfl (qi σ) ?_;intro K hK;go_big_quiet_op;go_big_quiet_on));exact k ()):P:=h (λ_=>k)
def qaA {P Q:Prop} (k:Q) (h:(Unit->Q)->P:=by intro k;(iterate 16 (refine qE rfl rfl (qi σ) ?_;intro K hK;go_big_quiet_op;go_big_quiet_on));exact k ()):P:=h (λ_=>k)
def qaz {P Q:Prop} (k:Q) (h:(Unit->Q)->P:=by intro k;(iterate 17 (refine qE rfl rfl (qi σ) ?_;intro K hK;go_big_quiet_op;go_big_quiet_on));exact k ()):P:=h (λ_=>k)
def ND {P Q:Prop} (k:Q) (h:(Unit->Q)->P:=by intro k;(iterate 19 (refine qE rfl rfl (qi σ) ?_;intro K hK;go_big_quiet_op;go_big_quiet_on));exact k ()):P:=h (λ_=>k)
def Ν0:Mm:=.o
instance:CoeDep Mm Ν0 Nat:=⟨0⟩
def Ν1:Mm:=.o
instance:CoeDep Mm Ν1 Nat:=⟨1⟩
def Ν2:Mm:=.o
instance:CoeDep Mm Ν2 Nat:=⟨2⟩
def Ν13:Mm:=.o
instance:CoeDep Mm Ν13 Nat:=⟨13⟩
def Ν14:Mm:=.o
instance:CoeDep Mm Ν14 Nat:=⟨14⟩
def Ν16:Mm:=.o
instance:CoeDep Mm Ν16 Nat:=⟨16⟩
def Ν199:Mm:=.o
instance:CoeDep Mm Ν199 Nat:=⟨199⟩
def Ν204:Mm:=.o
instance:CoeDep Mm Ν204 Nat:=⟨204⟩
def Ν209:Mm:=.o
instance:CoeDep Mm Ν209 Nat:=⟨209⟩
def Ν217:Mm:=.o
instance:CoeDep Mm Ν217 Nat:=⟨217⟩
def Ν272:Mm:=.o
instance:CoeDep Mm Ν272 Nat:=⟨272⟩
def Ν274:Mm:=.o
instance:CoeDep Mm Ν274 Nat:=⟨274⟩
def Ν275:Mm:=.o
instance:CoeDep Mm Ν275 Nat:=⟨275⟩
def Ν277:Mm:=.o
instance:CoeDep Mm Ν277 Nat:=⟨277⟩
def Ν279:Mm:=.o
instance:CoeDep Mm Ν279 Nat:=⟨279⟩
def ώ:=@List.length_append
def Ϗ:=@if_neg
def ϐ:=@List.mem_append_right
def ϑ:=@Or.inl
def ϒ:=@List.getD_eq_getElem?_getD
def ϓ:=@if_pos
def ϔ:=@Nat.le_refl
def ϕ:=@Or.inr
def ϖ:=@List.getElem?_eq_getElem
def ϗ:=@Nat.lt_of_lt_of_le
def Ϙ:=@List.length_cons
def ϙ:=@Nat.le_trans
def Ϛ:=@List.map_cons
def ϛ:=@List.mem_cons_of_mem
def Ϟ:=@List.mem_cons
def ϟ:=@List.mem_cons_self
def Ϡ:=@List.eq_nil_of_length_eq_zero
def ϡ:=@List.take_succ_eq_append_getElem
def Ϣ:=@List.length_nil
def ϣ:=@List.getElem?_eq_some_iff
def Ϥ:=@List.length_take
def ϥ:=@List.getElem_mem
def Ϧ:=@of_decide_eq_true
def ϧ:=@absurd
def Ϩ:=@List.take_length
def ϩ:=@List.map_append
def Ϫ:=@List.mem_append
def ϫ:=@Nat.zero_le
def Ϭ:=@List.length_drop
def ϭ:=@List.append_assoc
def Ϯ:=@Option.isSome_iff_exists
def ϯ:=@decide_eq_false
def ϰ:=@Option.getD_some
def ϱ:=@List.length_map
def ϵ:=@List.Sublist.refl
def Ϻ:=@List.not_mem_nil
def ϻ:=@decide_eq_true
def Γ:=@congrArg
def Δ:=@List.getElem?_toArray
def Θ:=@List.append_nil
def Ξ:=@Bool.false_eq_true
def Φ:=@List.foldl_append
def Ψ:=@List.getElem?_append_left
def Ω:=@List.mem_append_left
def ε:=@List.getElem?_append_right
def ο:=@List.mem_map
def A0:=@Nat.mul_le_mul_right
def A4:=@Int.eq_ofNat_of_zero_le
def A5:=@Int.toNat_natCast
def A6:=@List.foldl_cons
def A7:=@List.take_append_drop
def A8:=@List.mem_singleton
def A9:=@Nat.le_add_right
def B3:=@List.length_pos_iff
def B4:=@List.mem_iff_getElem
def B6:=@List.getElem?_map
def B9:=@List.take_add_one
def C0:=@List.getElem?_take
def C1:=@if_true
def C2:=@Bool.and_eq_true
def C3:=@decide_eq_true_eq
def C4:=@Ne.symm
def C6:=@List.map_nil
def C7:=@List.length_filter_le
def C8:=@Prod.mk.injEq
def C9:=@Nat.pow_le_pow_right
def D0:=@Nat.le_succ
def D1:=@List.drop_eq_getElem_cons
def D2:=@Bool.eq_iff_iff
def D3:=@List.perm_iff_count
def D4:=@if_false
def D5:=@List.flatten_cons
def D6:=@Int.tmod_eq_emod_of_nonneg
def D8:=@of_decide_eq_false
def D9:=@Option.map_some
def E0:=@List.nodup_cons
def E8:=@List.mem_filter
def E9:=@Nat.add_zero
def F3:=@List.count_append
def F8:=@Array.getElem?_modify
def G0:=@List.filter_append
def G1:=@List.getElem?_drop
def G2:=@List.filter_cons
def G3:=@List.sum_cons
def G4:=@List.map_map
def G5:=@Nat.zero_add
def G6:=@Int.emod_eq_of_lt
def G7:=@List.size_toArray
def G8:=@List.nodup_append
def G9:=@List.map_congr_left
def I0:=@List.nil_append
def I1:=@List.length_singleton
def I2:=@Nat.mod_lt
def I3:=@List.all_eq_true
def I4:=@List.eq_of_mem_replicate
def I5:=@Nat.add_mul
def I6:=@List.drop_append_of_le_length
def I7:=@List.take_append_of_le_length
def I8:=@Option.some.inj
def I9:=@Bool.true_and
def J0:=@Int.natCast_emod
def J1:=@Bool.false_and
def J2:=@List.pairwise_cons
def J3:=@List.getElem?_eq_none
def J4:=@List.count_cons
def J5:=@List.getElem?_set_ne
def J6:=@List.length_filterMap_le
def J7:=@List.flatten_append
def K0:=@List.map_toArray
def K2:=@Nat.le_mul_of_pos_right
def K3:=@List.count_nil
def K4:=@List.length_eq_zero_iff
def K5:=@Nat.lt_succ_self
def K6:=@Option.map_eq_some_iff
def K7:=@List.drop_eq_nil_of_le
def K8:=@Int.lt_of_lt_of_le
def K9:=@List.take_of_length_le
def M0:=@List.getElem_cons_zero
def M2:=@List.filterMap_append
def M3:=@List.ext_getElem?
def M4:=@Bool.and_false
def M5:=@List.mem_range
def M6:=@List.cons_append
def M7:=@List.getElem_map
def M8:=@List.getElem?_eq_none_iff
def M9:=@List.flatMap_append
def N0:=@Array.length_toList
def N1:=@List.mem_map_of_mem
def N2:=@Nat.add_assoc
def N3:=@List.getElem?_take_of_lt
def N4:=@Nat.zero_mul
def N5:=@List.nodup_nil
def N6:=@List.length_eq_one_iff
def O1:=@Array.getElem?_setIfInBounds_ne
def O2:=@Nat.mod_eq_of_lt
def O3:=@Nat.one_mul
def O4:=@Int.le_refl
def O5:=@UInt8.toNat_inj
def O6:=@List.cons.injEq
def O7:=@Option.map_none
def P0:=@List.mergeSort_perm
def P1:=@Array.toList_modify
def P2:=@Nat.sub_self
def P4:=@And.intro
def P5:=@List.find?_eq_none
def P6:=@beq_iff_eq
def P8:=@List.take_take
def P9:=@List.mem_filterMap
def Q1:=@Int.tdiv_eq_ediv_of_nonneg
def Q2:=@Int.emod_lt_of_pos
def Q3:=@Array.getElem?_eq_getElem
def Q6:=@Classical.byContradiction
def Q7:=@List.mem_of_find?_eq_some
def Q8:=@Option.some.injEq
def R0:=@List.any_eq_false
def R4:=@List.flatMap_cons
def R5:=@List.getElem_append_left
def R8:=@List.sublist_append_left
def S0:=@List.length_erase_of_mem
def S1:=@List.pairwise_mergeSort
def S2:=@Nat.add_sub_cancel_left
def S3:=@Nat.lt_or_ge
def S5:=@Nat.le_of_lt
def T1:=@List.getElem?_set_self
def T2:=@Nat.testBit_lt_two_pow
def T3:=@Nat.div_add_mod
def T4:=@List.find?_some
def T5:=@Int.emod_nonneg
def T6:=@Nat.div_lt_iff_lt_mul
def T7:=@Array.mem_of_getElem?
def T8:=@List.Pairwise.sublist
def T9:=@Int.emod_add_mul_ediv
def U1:=@List.eraseIdx_sublist
def U2:=@List.take_zero
def V1:=@List.tail_cons
def V4:=@List.take_left
def V5:=@List.drop_left
def V6:=@Nat.mul_one
def V7:=@List.mem_of_mem_take
def W4:=@Int.emod_emod_of_dvd
def W5:=@List.mem_erase_of_ne
def W8:=@List.filter_sublist
def X0:=@Array.toList_append
def X1:=@Array.toList_filter
def X2:=@Nat.min_self
def X3:=@List.map_set
def X4:=@Nat.add_comm
def X5:=@Nat.min_def
def X6 {o:Obj}:ql w (w.alloc o):=ql.alloc _ _
def X8 {P:Prop} (h:P:=by simp[Value.oneCell']):P:=h
def X9 {P:Prop} (h:P:=by rintro(e | e)<;>omega):P:=h
def ZP (a s:Int) (h:May a s) (w:World):
  Calls prog 309 #[ι a,ι s] w λe w'=>e= .returned (μ ό)/\w'=w:=by
 obtain⟨d,G,H,I⟩:=h
 go_enter func309,ntmps309
 go_wp2;go_ret;exact⟨rfl,rfl⟩
def BT (a s:Int) (G:I64 a) (H:I64 s) (h: ¬May a s) (w:World):
  Calls prog 309 #[ι a,ι s] w λe w'=>e= .returned (μ ύ)/\w'=w:=by
 obtain⟨I,J⟩:=G;obtain⟨N,O⟩:=H;have d:=κ h;clear h
 go_enter func309,ntmps309
 go_wp2
 all_goals
  go_ret;have h:=d.o;unfold May at h;exact⟨qZ (by first | rfl | (simp;omega)),rfl⟩
def Vw (s:Int) (d:0<=s) (G:s<=64) (w:World):
  Calls prog 310 #[ι s] w λe w'=>e= .returned (ψ (two s-1))/\w'=w:=by
 go_enter func310,ntmps310
 go_wp2;go_ret;exact⟨xV (EH s d G),rfl⟩
def QK (n:Int) (a s:Int) (G:U64 n) (h:May a s) (w:World):
  Calls prog 292 #[ψ n,ι a,ι s] w λe w'=>e= .returned (ψ (fld n a s))/\ ∃k,w'=w.drewN k:=by
 have I:=ZP a s h;have d:=Fj n a s G h;obtain⟨J,N,O,U⟩:=h;obtain⟨n1,n2⟩:=G;have H:=κ d;clear d
 go_enter func292,ntmps292
 go_wp2_with (go_at_call 309;refine(I _).mono ?_;rintro e w' ⟨rfl,rfl⟩)
 go_quiet ((go_at_call 310;exact Calls.quiet_of_same (Vw s τ τ _)))
 go_wp2;go_ret;exact⟨xV H.o,_,rfl⟩
def FU (n v:Int) (a s:Int) (G:U64 n) (J:U64 v) (h:May a s) (w:World):
  Calls prog 304 #[ψ n,ι a,ι s,ψ v] w λe w'=>e= .returned (ψ (lay n a s v))/\ ∃k,w'=w.drewN k:=by
 have I:=ZP a s h;have d:=BY n a s v G J h;obtain⟨N,O,U,Y⟩:=h;obtain⟨n1,n2⟩:=G;have H:=κ d;clear d
 go_enter func304,ntmps304
 go_wp2_with (first | (go_at_call 309;refine(I _).mono ?_;rintro e w' ⟨rfl,rfl⟩) | (go_at_call 310;refine(Vw _ τ τ _).mono ?_;rintro e w' ⟨rfl,rfl⟩))
 go_ret;exact⟨xV H.o,0,rfl⟩
def Lr (n v:Int) (a s:Int) (G:I64 a) (I:I64 s) (h: ¬May a s) (w:World):
  Calls prog 304 #[ψ n,ι a,ι s,ψ v] w λe w'=>e= .returned (ψ (lay n a s v))/\ ∃k,w'=w.drewN k:=by
 have H:=BT a s G I h;have d:=κ (show n=lay n a s v by unfold lay;rw[Ϗ h]);clear h
 go_enter func304,ntmps304
 go_wp2_with (go_at_call 309;refine(H _).mono ?_;rintro e w' ⟨rfl,rfl⟩)
 go_ret;exact⟨xV d.o,0,rfl⟩
def FV (n v:Int) (a s:Int) (G:U64 n) (I:U64 v) (d:I64 a) (H:I64 s) (w:World):
  Calls prog 304 #[ψ n,ι a,ι s,ψ v] w λe w'=>e= .returned (ψ (lay n a s v))/\ ∃k,w'=w.drewN k:=by
 by_cases h:May a s
 ·exact FU n v a s G I h w
 ·exact Lr n v a s d H h w
def U9 (n s:Int) (G:U64 n) (H:I64 s) (w:World):
  Calls prog 317 #[ψ n,ι s] w λe w'=>e= .returned (ι (sgd n s))/\w'=w:=by
 obtain⟨n1,n2⟩:=G;obtain⟨s1,s2⟩:=H;by_cases h1:1<=s
 ·by_cases h2:s<=64
  ·have d:=κ (AV n s h1 h2)
   go_enter func317,ntmps317
   go_wp2;go_ret;exact⟨xV d.o,rfl⟩
  ·have d:=κ (show 0=sgd n s by unfold sgd;rw[ϓ τ])
   go_enter func317,ntmps317
   go_wp2;go_ret;exact⟨xV d.o,rfl⟩
 ·have d:=κ (show 0=sgd n s by unfold sgd;rw[ϓ τ])
  go_enter func317,ntmps317
  go_wp2;go_ret;exact⟨xV d.o,rfl⟩
def KD (l:List Int) (v:Value) (w:World) (af:8<l.length) (ad:SlI .u8 w v l) (O:Byt l):
  Calls prog 258 #[v] w λe w'=>e= .returned (ψ (num l))/\w'=w:=by
 obtain⟨an,cap,rfl,al,G,ag,_,_⟩:=ad;obtain⟨b,off,rfl,_,_⟩:=G 0 τ;have ab:=κ G;have aa:=κ O;have I:=κ (Sz l);clear G O
 go_enter func258,ntmps258
 go_wp2;obtain⟨d,Y⟩: ∃d,d=l.length-8:=⟨_,rfl⟩;have J:=κ (show (l.drop d).length=8 by simp;omega);have aj:d+8<=l.length:=by omega
 have ai:l.length<=d+8:=by omega
 rw[<-Y] at I ⊢;clear Y
 go_loop [4,14] (λn i=> ∃j:Nat,j<=8/\i= ι j/\n= ψ (num ((l.drop d).take j))) (λ_ i=>8-(intOf i).toNat)
 case atStart=>exact⟨0,τ,rfl,by simp[num]⟩
 case round=>
  obtain⟨j,ak,rfl,rfl⟩:=hrel;by_cases hlt:j<8
  ·obtain⟨ae,ao,N,_,U⟩:=ab.o (d+j) τ;simp only[Q8,Addr.mk.injEq,and_true] at N;obtain⟨rfl,rfl⟩:=N;have am:d+j<l.length:=by omega
   have ah:w.cell? ⟨b,off+d+j,ϋ⟩=ϊ (υ (l.getD (d+j) 0)):=by rw[N2];exact U
   clear U
   have H:=ZJ (l.drop d) j (by rw[J.o];exact hlt) (λi=>by
    have:=aa.o (d+i)
    rwa [ϒ,G1,<-ϒ])
   rw[List.getElem_drop] at H;have ac:=κ H;clear H;go_wp2
   go_round
   case rel=>exact⟨j+1,τ,by go_num,by rw[<-ac.o]⟩
   case measure=>simp[intOf];omega
  ·go_wp2;go_ret;exact⟨xV (by rw[K9 (by rw[J.o];omega)];exact I.o),rfl⟩
def Va (l:List Int) (v:Value) (w:World) (O:l.length<=8) (N:SlI .u8 w v l) (d:Byt l):
  Calls prog 258 #[v] w λe w'=>e= .returned (ψ (num l))/\w'=w:=by
 obtain⟨ac,cap,rfl,ab,G,U,_,_⟩:=N;have I:=κ G;have H:=κ d;clear G d
 go_enter func258,ntmps258
 go_wp2
 go_loop [4,14] (λn i=> ∃j:Nat,j<=l.length/\i= ι j/\n= ψ (num (l.take j))) (λ_ i=>l.length-(intOf i).toNat)
 case atStart=>exact⟨0,τ,rfl,by simp[num]⟩
 case round=>
  obtain⟨j,aa,rfl,rfl⟩:=hrel;by_cases hlt:j<l.length
  ·obtain⟨b,off,rfl,_,Y⟩:=I.o j hlt;have J:=κ (ZJ l j hlt H.o);go_wp2
   go_round
   case rel=>exact⟨j+1,τ,by go_num,by rw[<-J.o]⟩
   case measure=>simp[intOf];omega
  ·go_wp2;go_ret;exact⟨xV (by rw[K9 τ]),rfl⟩
def gg (l:List Int) (v:Value) (w:World) (G:SlI .u8 w v l) (d:Byt l):
  Calls prog 258 #[v] w λe w'=>e= .returned (ψ (num l))/\w'=w:=by
 by_cases h:8<l.length
 ·exact KD l v w h G d
 ·exact Va l v w τ G d
def Fi:(prog.info? 5).map (λi=>(i.zero,i.size,i.bytes))=ϊ (ϊ (υ 0),1,1):=by kernel_rfl
def Dz (n:Int) (s:Nat) (O:U64 n) (ad:s<=8) (w:World):
  Calls prog 168 #[ψ n,ι s] w λe w'=> ∃v,e= .returned v/\SlI .u8 w' v (bys n s)/\ql w w':=by
 obtain⟨n1,n2⟩:=O;obtain⟨ac,hi,Y,aa,ab⟩:=info_parts Fi
 go_enter func168,ntmps168
 go_wp2_with (at_make;refine wpList_make_full _ rfl _ _ 24 rfl w.heap.size 5 ac (υ 0) 1 underlying24 hi Y aa _ _ _ _ s rfl rfl τ τ ?c1 ?c2 ?c3 ?_)
 case c1=>rw[ab];omega
 case c2=>unfold maxLen;omega
 case c3=>omega
 intro w1 d H;have G:Below w.heap.size w w1:=(Below.refl _ _).grown H τ η;have I:w1.ownsRow w.heap.size 5 1 (δ (ϊ ⟨w.heap.size,0,ϋ⟩) s s) s ((vY n s 0).map (Value.int .u8)):=by
  rw[U0];simpa [toList_madeCells_one] using d
 clear d H;go_wp2
 go_loopw [16] (λi wr=> ∃k:Nat,k<=s/\i= ι k/\wr.ownsRow w.heap.size 5 1 (δ (ϊ ⟨w.heap.size,0,ϋ⟩) s s) s ((vY n s k).map (Value.int .u8))/\Below w.heap.size w wr) (λi _=>s-(intOf i).toNat)
 case atStart=>exact⟨0,τ,rfl,I,G⟩
 case round=>
  obtain⟨k,N,rfl,d,G⟩:=hrel;clear I;by_cases hlt:k<s
  ·have J:=d.cellAt (s-1-k) τ;have ae:=d.frozenAt (s-1-k);have U:=d.stored (s-1-k) (υ (by8 n k));rw[B6,ϖ (by rw[Y4];omega),D9] at J;go_wp2;go_roundw
   case rel=>exact⟨k+1,τ,by go_num,by rw[<-Dh n s k hlt,X3];exact U.1,G.setCell (ϔ _) _⟩
   case measure=>simp[intOf];omega
  ·obtain rfl:k=s:=by omega
   clear hlt N;go_wp2;refine bodyPost_ret (v:= δ (ϊ ⟨w.heap.size,0,ϋ⟩) k k) (by simp[results,results168,go_sem]) rfl ?_;rw[U3] at d;have:=zP n k;exact⟨_,rfl,SlI.of_owns (by rw[this];exact d) (by rw[this];omega),G⟩
def Ej (n s:Int) (d:1<=s) (G:s<=64):sgd n s%two s=n%two s:=by
 unfold sgd;rw[Ϗ τ];split
 ·exact W4 _ (Int.dvd_refl _)
 ·rw[Int.sub_emod_right];exact W4 _ (Int.dvd_refl _)
def KR (n s:Int) (G:1<=s) (H:s<=64): -two (s-1)<=sgd n s/\sgd n s<two (s-1):=by
 have b:=gy (s-1);have q:=JX (k:=s-1) τ;rw[show s-1+1=s from by omega] at q;have c:=T5 n (b:=two s) τ;have d:=Q2 n (b:=two s) τ;unfold sgd;rw[Ϗ τ];split<;>omega
def EW (n a s v:Int) (d:U64 n):U64 (lay n a s v):=by
 unfold lay;split
 ·have:=EX n.toNat a.toNat s.toNat v.toNat;unfold U64;omega
 ·exact d
def Py (n a s v:Int) (h:May a s):(lay n a s v).toNat=DC n.toNat a.toNat s.toNat v.toNat:=by
 unfold lay;rw[ϓ h];simp
def BN {d M:Nat} (H:d<18446744073709551616) (G:M<18446744073709551616) (h: ∀i,i<64->d.testBit i=M.testBit i):d=M:=by
 apply Nat.eq_of_testBit_eq;intro i;by_cases hi:i<64
 ·exact h i hi
 ·rw[T2 (ϗ (m:=2 ^ 64) H (C9 τ τ)),T2 (ϗ (m:=2 ^ 64) G (C9 τ τ))]
def VA (n:Int) (k:Nat):yJ (bys n k)=n%2 ^ (8* k):=by
 induction k with
 | zero=>simp[bys,yJ,Int.emod_one]
 | succ k ih=>
  rw[Cq,show by8 n k::bys n k=[by8 n k]++bys n k from rfl,OA,ih,zP];unfold by8;rw[show (8* (k+1))=8* k+8 from by omega,Int.pow_add,show ((256:Int) ^ k)=2 ^ (8* k) from by rw[Int.pow_mul];rfl];have e:yJ [n/2 ^ (8* k)%256]=n/2 ^ (8* k)%256:=by simp[yJ]
  rw[e];have I:(0:Int)<2 ^ (8* k):=Int.pow_pos ζ;have d:=T9 n (2 ^ (8* k));have G:=T9 (n/2 ^ (8* k)) 256;have J:=T5 n (b:=2 ^ (8* k)) τ;have N:=Q2 n I;have O:=T5 (n/2 ^ (8* k)) (b:=256) τ;have U:=Q2 (n/2 ^ (8* k)) (b:=256) τ;generalize (2:Int) ^ (8* k)=P at *;generalize n%P=R at *;generalize ab:n/P=Q at *;generalize Q%256=r at *;generalize Q/256=q at *;have aa:r* P<=255* P:=Int.mul_le_mul_of_nonneg_right τ τ;have Y:0<=r* P:=Int.mul_nonneg τ τ;have H:n=(r* P+R)+(P* 256)* q:=by
   rw[<-d,<-G,Int.mul_add,Int.mul_comm P r,<-Int.mul_assoc];omega
  rw[show (2:Int) ^ 8=256 from by decide];rw[H,Int.add_mul_emod_self_left];exact(G6 τ τ).symm
def Byt.snoc {x:Int} (h:Byt (l++[x])):Byt l/\0<=x/\x<=255:=by
 constructor
 ·intro i;by_cases hi:i<l.length
  ·have:=h i
   rwa [ϒ,Ψ hi,<-ϒ] at this
  ·rw[ϒ,J3 τ];simp
 ·have:=h l.length;rw[ϒ,ε (ϔ _)] at this
  simpa using this
def SC (l:List Int): ∀m:List Int,l.length=m.length->Byt l->Byt m->yJ l=yJ m->l=m:=by
 refine gM (P:=λl=> ∀m:List Int,l.length=m.length->Byt l->Byt m->yJ l=yJ m->l=m) ?_ ?_ l
 ·intro m h _ _ _;exact(Ϡ (by simpa using h.symm)).symm
 ·intro l x U m d N H J;rcases List.eq_nil_or_concat m with rfl | ⟨m',y,rfl⟩
  ·simp at d
  ·rw[List.concat_eq_append] at *;rw[yR,yR] at J;obtain⟨O,Y⟩:=N.snoc;obtain⟨I,aa⟩:=H.snoc;have G:x=y:=by omega
   have:=U m' (by simpa using d) O I τ;rw[this,G]
def JF (n:Int) (k:Nat):Byt (bys n k):=by
 intro i;rw[ϒ];by_cases hi:i<(bys n k).length
 ·rw[ϖ hi,ϰ];simp only[bys,M7];exact IX _ _
 ·rw[J3 τ];simp
def Yy (l:List Int) (h:Byt l):0<=yJ l/\yJ l<2 ^ (8* l.length):=by
 revert h
 refine gM (P:=λl=>Byt l->0<=yJ l/\yJ l<2 ^ (8* l.length)) ?_ ?_ l
 ·intro _;simp[yJ]
 ·intro l x G h;obtain⟨d,H⟩:=h.snoc;have:=G d;rw[yR,ώ,I1,show 8* (l.length+1)=8* l.length+8 from by omega,Int.pow_add,show (2:Int) ^ 8=256 from by decide];omega
def uD (l:List Int) (h:Byt l) (H:l.length<=8):num l=yJ l:=by
 have d:=Yy l h;have G:(2:Int) ^ (8* l.length)<=2 ^ 64:=by
  have:=C9 (n:=2) τ (show 8* l.length<=64 by omega)
  exact_mod_cast this
 rw[Xh];exact G6 d.1 (K8 d.2 G)
def qbB (l:List Int) (h:Byt l) (G:l.length<=8):bys (num l) l.length=l:=by
 apply SC _ _ (zP _ _) (JF _ _) h;have d:=Yy l h;rw[VA,uD l h G];exact G6 d.1 d.2
def qy (n s:Int):List Int:=if 0<=s/\s<=8 then bys n s.toNat else []
def gQ (n s:Int) (h:0<=s/\s<=8):qy n s=bys n s.toNat:=by unfold qy;rw[ϓ h]
def DA (n s:Int) (G:U64 n) (H:I64 s) (w:World):
  Calls prog 168 #[ψ n,ι s] w λe w'=> ∃v,e= .returned v/\SlI .u8 w' v (qy n s)/\ql w w':=by
 obtain⟨s1,s2⟩:=H;by_cases h:0<=s/\s<=8
 ·obtain⟨S,rfl⟩:=A4 h.1;rw[gQ _ _ h,A5];exact Dz n S G τ w
 ·have d:=κ (show qy n s=[] by unfold qy;rw[Ϗ h]);by_cases h1:0<=s
  ·have I:8<s:=by omega
   clear h
   go_enter func168,ntmps168
   go_wp2;go_ret;exact⟨_,rfl,by rw[d.o];exact SlI.nil _ _,ql.refl _⟩
  ·clear h
   go_enter func168,ntmps168
   go_wp2;go_ret;exact⟨_,rfl,by rw[d.o];exact SlI.nil _ _,ql.refl _⟩
def qU (w:World) {o:Oper} (J:o.guard=ϋ) (s x:Operand) (t:TypeId)
  (O:o.op= .call {callee:= .builtin .append,args:= #[s,x],argTypes:= #[t,t]})
  (base:Nat) (e:TypeId) (i:TypeInfo) (z:Value) (bytes:Nat) (Y:P.underlying t=ϊ (.slice e)) (hi:P.info? e=ϊ i) (aw:i.zero=ϊ z)
  (au:i.size=1) (ak:i.bytes=bytes) (ax:z.cells.size=1)
  (v:Value) (k:IntKind) (l:List Int) (U:a.eval s=v) (H:w.ownsRow base e 1 v l.length (l.map (Value.int k)))
  (ac:Value) (d:List Int) (aa:a.eval x=ac) (an:SlI k w ac d)
  (al:(l.length+d.length)* bytes<=140737488355328) (az:1<=bytes) (aj:base<=w.heap.size)
  (h: ∀v' w',w'.ownsRow base e 1 v' (l++d).length ((l++d).map (Value.int k))->w.grownBy w' v.ownBlock->(v'.ownBlock=v.ownBlock∨v'.ownBlock=ϊ w.heap.size)->wpList P ops Q rest (a.put o.dst v') w'):wpList P ops Q (o::rest) a w:=by
 have ai:l.length+d.length<=maxLen:=by
  have:=K2 (l.length+d.length) (show 0<bytes by omega);unfold maxLen;omega
 obtain⟨ay,cap,rfl,aA,ao,aB,aC,ap⟩:=an;cases ay with
 | none=>
  have G:cap=0:=ap rfl;subst G;have ar:d=[]:=Ϡ τ;subst ar;refine wpList_append_own_none J s x t O base e i 1 Y hi v l.length (l.map (Value.int k)) U H aa ?_;exact h v w (by simpa using H) ⟨rfl,rfl,rfl,ϔ _,λ_ _ _=>rfl⟩ (ϑ rfl)
 | some ad=>
  refine wpList_append_own_at w J s x t O base e i z 1 bytes Y hi aw au ak ax ζ v l.length (l.map (Value.int k)) U H ad d.length cap (d.map (Value.int k)) aa η ?_ ?_ ai al aj ?_
  ·intro j u N;rw[B6] at N;obtain⟨y,ab,rfl⟩:=K6.1 N;obtain⟨aq,aD⟩:=ϣ.1 ab;obtain⟨b,off,I,_,am⟩:=ao j aq;simp only[Q8] at I;subst I;have ae:(⟨b,off,ϋ⟩:Addr).add j=⟨b,off+j,ϋ⟩:=by
    unfold Addr.add;split
    ·rename_i G;subst G;rfl
    ·rfl
   rw[ae,am,ϒ,ab];rfl
  ·intro u av;obtain⟨y,_,rfl⟩:=ο.1 av;rfl
  ·intro v' w' af ag _ ah;exact h v' w' (by simpa using af) ag ah
def XB {e size:Nat} {u:Value} (h:w.ownsRow base e size v n xs) (g:w.grownBy w' u.ownBlock) (d: ∀b,v.ownBlock=ϊ b->u.ownBlock≠ϊ b):w'.ownsRow base e size v n xs:=by
 obtain⟨G,H⟩:=h;refine⟨G, ?_⟩;rcases H with h | ⟨b,cap,cur,e1,hb,hg,rest⟩
 ·exact ϑ h
 ·refine ϕ ⟨b,cap,cur,e1,hb, ?_,rest⟩;rw[g.block b (lt_of_block hg) (by rw[e1] at d;exact λe=>d b rfl e.symm)];exact hg
def gB {e size:Nat} (h:w.ownsRow base e size v n xs) (d:v.ownBlock=ϊ b):b<w.heap.size:=by
 rcases h.2 with ⟨rfl,_⟩ | ⟨G,cap,cur,rfl,_,H,_⟩
 ·cases d
 ·obtain rfl:G=b:=by injection d
  exact lt_of_block H
def jE {e size:Nat} (h:w.ownsRow base e size v n xs) (m:ql w w'):w'.ownsRow base e size v n xs:=by
 obtain⟨d,G⟩:=h;refine⟨d, ?_⟩;rcases G with h | ⟨b,cap,cur,e1,hb,hg,rest⟩
 ·exact ϑ h
 ·exact ϕ ⟨b,cap,cur,e1,hb,by rw[m.block b (lt_of_block hg)];exact hg,rest⟩
def SlI.take (h:SlI k w (δ G n cap) l) (m:Nat) (ab:m<=l.length):SlI k w (δ G m cap) (l.take m):=by
 obtain⟨ac,U,e,Y,H,aa,I,J⟩:=h;cases e;have d:(l.take m).length=m:=by simp;omega
 refine⟨G,cap,by rw[d],by rw[d];omega,λi hi=> ?_,by rw[d];omega,I,J⟩;rw[d] at hi;obtain⟨b,off,e,N,O⟩:=H i τ;exact⟨b,off,e,N,by rw[O,ϒ,ϒ,C0,ϓ hi]⟩
def SlI.take3 (h:SlI k w (δ G n cap) l) (m:Nat) (ab:m<=l.length):SlI k w (δ G m m) (l.take m):=by
 obtain⟨ac,O,e,U,H,Y,aa,I⟩:=h;cases e;have d:(l.take m).length=m:=by simp;omega
 refine⟨G,m,by rw[d],by rw[d];omega,λi hi=> ?_,by rw[d];omega,τ,λx=>by have:=I x;omega⟩;rw[d] at hi;obtain⟨b,off,e,J,N⟩:=H i τ;exact⟨b,off,e,J,by rw[N,ϒ,ϒ,C0,ϓ hi]⟩
def SlI.drop {off:Nat} (h:SlI k w (δ (ϊ ⟨b,off,ϋ⟩) n cap) l) (m:Nat) (aa:m<=l.length):SlI k w (δ (ϊ ⟨b,off+m,ϋ⟩) (n-m) (cap-m)) (l.drop m):=by
 obtain⟨ab,J,e,N,d,O,U,Y⟩:=h;cases e;refine⟨_,cap-m,by rw[Ϭ],by rw[Ϭ];omega,λi hi=> ?_,by rw[Ϭ];omega,τ,λh=>by cases h⟩;rw[Ϭ] at hi;obtain⟨I,ac,e,G,H⟩:=d (m+i) τ;cases e;refine⟨b,off+m,rfl,G, ?_⟩;rw[N2,H,ϒ,ϒ,G1]
def SlI.from_ (h:SlI k w (δ d n cap) l) (m:Nat) (ae:m<=l.length) (H:Option Addr) (G:H=if cap=m then d else d.map (·.add m)):SlI k w (δ H (n-m) (cap-m)) (l.drop m):=by
 obtain⟨af,aa,e,ab,O,ac,ad,I⟩:=h;cases e;refine⟨H,cap-m,by rw[Ϭ],by rw[Ϭ];omega,λi hi=> ?_,by rw[Ϭ];omega,τ,λh=> ?_⟩
 ·rw[Ϭ] at hi;obtain⟨b,off,e,U,Y⟩:=O (m+i) τ;rw[Ϗ τ,e] at G;have J:(⟨b,off,ϋ⟩:Addr).add m=⟨b,off+m,ϋ⟩:=by
   unfold Addr.add;split
   ·rename_i N;subst N;rfl
   ·rfl
  refine⟨b,off+m,by rw[G,D9,J],U, ?_⟩;rw[N2,Y,ϒ,ϒ,G1]
 ·subst G;split at h
  ·have:=I h;omega
  ·cases d with
   | none=>have:=I rfl;omega
   | some a=>simp at h
def Od (v:Value) (l:List Int) (w:World) (I:SlI .u8 w v l) (al:l.length<=1000000):
  Calls prog 68 #[v] w λe w'=> ∃v',e= .returned v'/\w'.ownsRow w.heap.size 5 1 v' l.length (l.map (Value.int .u8))/\ql w w':=by
 obtain⟨ag,hi,ac,ae,af⟩:=info_parts (P:=prog) (e:=5) (z:= υ 0) (size:=1) (bytes:=1) ξ;have d:=κ I;obtain⟨ah,cap,rfl,ai,G,aj,ak,H⟩:=I;cases ah with
 | none=>
  have O:cap=0:=H rfl;subst O;obtain rfl:l=[]:=Ϡ τ;clear d G;have Y:=Go.run_eql_slice_nil (P:=prog) w 24 5 ϋ 0 0 underlying24
  go_enter func68,ntmps68
  go_wp2;go_ret;exact⟨_,rfl,⟨rfl,ϑ ⟨rfl,rfl⟩⟩,ql.refl _⟩
 | some ad=>
  have aa:=World.ownsRow_lit (e:=5) (size:=1) (base:=w.heap.size) w #[] 0 (ϔ _) (by unfold maxLen;omega) rfl;clear G H;have Y:=Go.run_eql_slice_nil (P:=prog) w 24 5 (ϊ ad) l.length cap underlying24
  go_enter func68,ntmps68
  go_wp2_with (at_builtin;refine xr _ rfl (.tmp 5) (.tmp 6) 24 rfl w.heap.size 5 ag (υ 0) 1 underlying24 hi ac ae af rfl _ .u8 [] rfl aa _ l rfl (d.o.keep X6) (by simp;omega) ζ (ql.alloc w _).size ?_;intro v' w2 ab U;have N:=κ ab;have J:=κ U)
  go_ret;exact⟨_,rfl,N.o,(ql.alloc w (.cells #[] 5)).grown J.o (ql.alloc w _).size (by intro q h;cases h;exact ϔ _)⟩
def xC {e size:Nat} (h:w.ownsRow base e size v n xs) (m:jt S w w') (H: ∀k,S k->k<base):w'.ownsRow base e size v n xs:=by
 obtain⟨d,G⟩:=h;refine⟨d, ?_⟩;rcases G with h | ⟨g,cap,cur,e1,hb,hg,rest⟩
 ·exact ϑ h
 ·exact ϕ ⟨g,cap,cur,e1,hb,m.blk hg (λx=>by have:=H g x;omega),rest⟩
def qfO {e:Nat} (h:w.ownsRow base e 1 v n xs): ∃oa m cap,v= δ oa m cap/\m=n/\n<=cap:=by
 rcases h.2 with ⟨rfl,e⟩ | ⟨b,cap,cur,rfl,_,_,d,_⟩
 ·exact⟨ϋ,0,0,rfl,τ,τ⟩
 ·exact⟨_,_,cap,rfl,rfl,d⟩
def PI {e size:Nat} {o:Obj} (g:w.grownBy w' v.ownBlock) (G:w.ownsRow base e size v n xs) (H:b<base) (h:w.heap[b]? =ϊ o):w'.heap[b]? =ϊ o:=by
 rw[g.block b (qn h)]
 ·exact h
 ·rcases G.2 with ⟨rfl,_⟩ | ⟨d,cap,cur,rfl,I,_⟩
  ·exact λx=>by cases x
  ·intro x;have:b=d:=by injection x
   omega
structure j5 (w:World) (W:Nat) (v:Value) (l:List Int):Prop where
 blk:w.heap[W]? =ϊ (.cells #[v] 242 (0,0))
 row:w.ownsRow (W+1) 5 1 v l.length (l.map (Value.int .u8))
def WrS (W:Nat) (v:Value) (b:Nat):Prop:=b=W∨v.ownBlock=ϊ b
def Cw (h:j5 w W v l) (vb:Value) (H:List Int) (U:SlI .u8 w vb H) (aq:l.length+H.length<=10000000):
  Calls prog 114 #[γ W,vb] w λe w'=>e= .returned (.tuple #[])/\(∃v',j5 w' W v' (l++H)/\(v'.ownBlock=v.ownBlock∨v'.ownBlock=ϊ w.heap.size))/\jt (WrS W v) w w':=by
 obtain⟨al,hi,ai,aj,ak⟩:=info_parts (P:=prog) (e:=5) (z:= υ 0) (size:=1) (bytes:=1) ξ;have am:=β0 h.blk;have ao:=yw h.blk 0;have ae:=qn h.blk;have I:=κ h;have ad:=κ U;clear h U
 go_enter func114,ntmps114
 go_wp2_with (at_builtin;refine qU _ rfl (.tmp 8) (.tmp 9) 24 rfl (W+1) 5 al (υ 0) 1 underlying24 hi ai aj ak rfl v .u8 l rfl I.o.row _ H rfl ad.o τ ζ ae ?_;intro v' w2 N J O;have ab:=κ N;have d:=κ J;have aa:=κ O;have G:=PI J I.o.row (K5 W) I.o.blk;have c2:=β0 G;have ap:=yw G 0;have ac:=κ G;obtain⟨au,ar,an,rfl,ag⟩:=qfO N;clear N J O G ag)
 refine bodyPost_end (v:= .tuple #[]) ?rr rfl ?_
 case rr=>simp[results,results114,go_sem]
 have Y:jt (WrS W v) w w2:=⟨d.o.os,d.o.tape,d.o.output,d.o.size,λk af ah=>d.o.block k af (λe=>ah (ϕ e.symm))⟩;refine⟨rfl,⟨_,⟨qB (qp ac.o 0 _) rfl, ?_⟩,aa.o⟩,Y.set (ϑ rfl) _⟩;exact xC (S:=λb=>b=W) ab.o ((jt.refl (λb=>b=W) w2).set (p:=⟨W,0,ϋ⟩) rfl _) (by rintro k rfl;exact K5 _)
def j5.more (h:j5 w W v l) (m:ql w w'):j5 w' W v l:=⟨qq m h.blk,jE h.row m⟩
def un (w w':World) (W:Nat) (v:Value) (l:List Int):Prop:=
 (∃v',j5 w' W v' l/\(v'.ownBlock=v.ownBlock∨ ∃g,v'.ownBlock=ϊ g/\w.heap.size<=g))/\jt (WrS W v) w w'
def un.after {w1:World} (m:ql w w1) (h:un w1 w' W v l):un w w' W v l:=by
 obtain⟨⟨v',G,d⟩,a⟩:=h;refine⟨⟨v',G, ?_⟩,(jt.of_more m).trans a⟩;rcases d with d | ⟨g,d,h3⟩
 ·exact ϑ d
 ·exact ϕ ⟨g,d,ϙ m.size h3⟩
def uU (h:j5 w W v l) (vb:Value) (d:List Int) (N:SlI .u8 w vb d) (J:l.length+d.length<=10000000):
  Calls prog 114 #[γ W,vb] w λe w'=>e= .returned (.tuple #[])/\un w w' W v (l++d):=
 (Cw h vb d N J).mono λ_ _ ⟨I,⟨v',G,H⟩,a⟩=>⟨I,⟨v',G,H.imp id λe=>⟨_,e,ϔ _⟩⟩,a⟩
def uG (h:j5 w W v l) (n s:Int) (H:0<=n/\n<=4294967295) (aa:1<=s/\s<=4) (Y:l.length<=1000000):
  Calls prog 139 #[γ W,ω n,ι s] w λe w'=>e= .returned (.tuple #[])/\un w w' W v (l++qy n s):=by
 have G:=κ h;have ab:(qy n s).length<=8:=by
  obtain⟨k,rfl⟩: ∃k:Nat,s=k:=⟨s.toNat,τ⟩;unfold qy;rw[ϓ τ,zP];omega
 have I:U64 n:=by unfold U64;omega
 have N:I64 s:=by unfold I64;omega
 obtain⟨n1,n2⟩:=H;clear h
 go_enter func139,ntmps139
 go_wp2_with first | (go_at_call 168;refine(DA n s I N _).mono ?_;rintro e w1 ⟨U,rfl,J,d⟩) | (go_at_call 114;refine(uU (G.o.more d) U _ J τ).mono ?_;rintro e w2 ⟨rfl,O⟩)
 refine bodyPost_end (v:= .tuple #[]) ?rr rfl ?_
 case rr=>simp[results,results139,go_sem]
 exact⟨rfl,O.after d⟩
def wk (h:j5 w W v l) (n:Int) (I:0<=n/\n<=255) (H:l.length<=1000000):
  Calls prog 111 #[γ W,υ n] w λe w'=>e= .returned (.tuple #[])/\un w w' W v (l++qy n 1):=by
 have G:=κ h;have J:0<=n/\n<=4294967295:=by omega
 have d:=κ J;obtain⟨n1,n2⟩:=I;clear h
 go_enter func111,ntmps111
 go_wp2_with (go_at_call 139;refine(uG G.o n 1 d.o ζ H).mono ?_;rintro e w2 ⟨rfl,N⟩)
 refine bodyPost_end (v:= .tuple #[]) ?rr rfl ?_
 case rr=>simp[results,results111,go_sem]
 exact⟨rfl,N⟩
def kU (h:j5 w W v l) (n:Int) (I:0<=n/\n<=65535) (H:l.length<=1000000):
  Calls prog 112 #[γ W,φ n] w λe w'=>e= .returned (.tuple #[])/\un w w' W v (l++qy n 2):=by
 have G:=κ h;have J:0<=n/\n<=4294967295:=by omega
 have d:=κ J;obtain⟨n1,n2⟩:=I;clear h
 go_enter func112,ntmps112
 go_wp2_with (go_at_call 139;refine(uG G.o n 2 d.o ζ H).mono ?_;rintro e w2 ⟨rfl,N⟩)
 refine bodyPost_end (v:= .tuple #[]) ?rr rfl ?_
 case rr=>simp[results,results112,go_sem]
 exact⟨rfl,N⟩
def uw (h:j5 w W v l) (n:Int) (I:0<=n/\n<=4294967295) (H:l.length<=1000000):
  Calls prog 113 #[γ W,ω n] w λe w'=>e= .returned (.tuple #[])/\un w w' W v (l++qy n 4):=by
 have G:=κ h;have J:0<=n/\n<=4294967295:=by omega
 have d:=κ J;obtain⟨n1,n2⟩:=I;clear h
 go_enter func113,ntmps113
 go_wp2_with (go_at_call 139;refine(uG G.o n 4 d.o ζ H).mono ?_;rintro e w2 ⟨rfl,N⟩)
 refine bodyPost_end (v:= .tuple #[]) ?rr rfl ?_
 case rr=>simp[results,results113,go_sem]
 exact⟨rfl,N⟩
def wZ (h:j5 w W v l) (G:l.length<=1000000):
  Calls prog 115 #[γ W] w λe w'=> ∃v',e= .returned v'/\w'.ownsRow w.heap.size 5 1 v' l.length (l.map (Value.int .u8))/\ql w w':=by
 have J:=β0 h.blk;have d:=κ (SlI.of_owns h.row τ);clear h
 go_enter func115,ntmps115
 go_wp2_with (go_at_call 68;refine(Od v l w d.o G).mono ?_;rintro e w2 ⟨N,rfl,I,H⟩)
 go_ret;exact⟨_,rfl,I,H⟩
def jG {e size:Nat} (h:w.ownsRow base e size v n xs) (d:v.ownBlock=ϊ b):base<=b:=by
 rcases h.2 with ⟨rfl,_⟩ | ⟨G,cap,cur,rfl,H,_⟩
 ·cases d
 ·obtain rfl:G=b:=by injection d
  exact H
def un.to_more {d:World} {J:List Int} (I:un w w' W v l) (h:j5 w W v J) (m:ql d w) (G:d.heap.size<=W):ql d w':=
 jt.to_more m I.2 (by
  rintro k (rfl | H)
  ·exact G
  ·have:=jG h.row H;omega)
def Jv {d:World} (a:jt (λb=>b=R) w w') (m:ql d w) (G:d.heap.size<=R):ql d w':=
 jt.to_more m a (by rintro k rfl;exact G)
def wR (w:World):j5 (w.alloc (.cells #[δ ϋ 0 0] 242)) w.heap.size (δ ϋ 0 0) []:=⟨qj _ _,⟨rfl,ϑ ⟨rfl,rfl⟩⟩⟩
structure WrK (w0 w:World) (W:Nat) (v:Value) (l:List Int) (B:Nat) (o:Obj):Prop where
 wr:j5 w W v l
 more:ql w0 w
 base:w0.heap.size<=W
 keep:w.heap[B]? =ϊ o
 ne: ¬B=W
 apart:v.ownBlock≠ϊ B
def WrK.new {d:World} (o:Obj) (h:j5 w W v l) (m:ql d w) (b:d.heap.size<=W):WrK d (w.alloc o) W v l w.heap.size o:=
 ⟨h.more (ql.alloc w o),m.al o,b,qj w o,λe=>by have:=qn h.blk;omega,λe=>by have:=gB h.row e;omega⟩
def WrK.wrote {G:World} {l':List Int} {o:Obj} (h:WrK G w W v l B o) (x:un w w' W v l'): ∃v',WrK G w' W v' l' B o:=by
 have I:=x.to_more h.wr h.more h.base;obtain⟨⟨v',H,d⟩,a⟩:=x;refine⟨v',H,I,h.base,a.blk h.keep ?_,h.ne, ?_⟩
 ·rintro(e | e)
  ·exact h.ne e
  ·exact h.apart e
 ·intro e;rcases d with d | ⟨g,d,h3⟩
  ·exact h.apart (by rw[<-d];exact e)
  ·rw[e] at d;obtain rfl:B=g:=by injection d
   have:=qn h.keep;omega
structure qu (w:World) (R:Nat) (left:List Int) (wrong:Int) (C:Nat->Prop:=λ_=>True):Prop where
 blk: ∃v,w.heap[R]? =ϊ (.cells #[v,.int .i64 wrong] 338 (0,0))/\SlI .u8 w v left/\(¬left=[]-> ∀g,v.ownBlock=ϊ g->C g)
 small:left.length<=1000000
 byt:Byt left
 shut: ¬wrong=0->left=[]
def qu.more (h:qu w R l e C) (m:ql w w'):qu w' R l e C:=by
 obtain⟨⟨v,d,G,N⟩,H,I,J⟩:=h;exact⟨⟨v,qq m d,G.keep m,N⟩,H,I,J⟩
def qu.mono (h:qu w R l e C) (k: ∀g,C g->D g):qu w R l e D:=by
 obtain⟨⟨v,d,G,N⟩,H,I,J⟩:=h;exact⟨⟨v,d,G,λx g y=>k g (N x g y)⟩,H,I,J⟩
def qu.old (h:qu w R l e C):qu w R l e (λg=>C g/\g<w.heap.size):=by
 obtain⟨⟨v,G,d,N⟩,H,I,J⟩:=h;refine⟨⟨v,G,d,λx g y=>⟨N x g y, ?_⟩⟩,H,I,J⟩;obtain⟨Y,cap,rfl,_,U,_⟩:=d;obtain⟨b,off,rfl,O,_⟩:=U 0 (B3.2 x);obtain rfl:b=g:=by injection y
 exact O
def AU (h:SlI .u8 w v l) (J: ¬l=[]-> ∀b,v.ownBlock=ϊ b-> ¬D b) (a:jt D w w'):SlI .u8 w' v l:=by
 obtain⟨O,cap,rfl,G,H,I⟩:=h;refine⟨O,cap,rfl,G,λi hi=> ?_,I⟩;obtain⟨b,off,rfl,d,N⟩:=H i hi;exact⟨b,off,rfl,ϗ d a.size,by rw[a.cells b _ d (J (λe=>by rw[e] at hi;simp at hi) b rfl)];exact N⟩
def qu.off (h:qu w R l e C) (m:jt D w w') (U: ¬D R) (O: ∀g,C g-> ¬D g):qu w' R l e C:=by
 obtain⟨⟨v,G,H,d⟩,I,J,N⟩:=h;exact⟨⟨v,m.blk G U,AU H (λx b y=>O b (d x b y)) m,d⟩,I,J,N⟩
def Ke (h:qu w R l e C) (o:Nat) (x:Int):w.cell? ⟨R,o,ϋ⟩≠ϊ (υ x):=by
 obtain⟨⟨v,d,⟨G,cap,rfl,_⟩,_⟩,_⟩:=h;rw[cell_of_row w R o _ _ _ d]
 match o with
 | 0=>simp
 | 1=>simp
 | n+2=>simp
def SlI.away (h:SlI .u8 w v l) (m:jt S w w') (O: ∀b,S b-> ∀o x,w.cell? ⟨b,o,ϋ⟩≠ϊ (υ x)):SlI .u8 w' v l:=by
 obtain⟨U,cap,H,I,J,N⟩:=h;refine⟨U,cap,H,I,λi hi=> ?_,N⟩;obtain⟨b,off,e,d,G⟩:=J i hi;exact⟨b,off,e,ϗ d m.size,by rw[m.cells b _ d (λs=>O b s _ _ G)];exact G⟩
def xh:Byt []:=by intro i;simp
def Byt.drop (h:Byt l) (n:Nat):Byt (l.drop n):=by
 intro i;have:=h (n+i);rw[ϒ] at this ⊢;rw[G1];exact this
def Byt.take (h:Byt l) (n:Nat):Byt (l.take n):=by
 intro i;have:=h i;rw[ϒ] at this ⊢;rw[C0];split
 ·exact this
 ·simp
def tkB (l:List Int) (n:Int):List Int:=if n<=l.length then l.take n.toNat else []
def tkL (l:List Int) (n:Int):List Int:=l.drop n.toNat
def tkE (l:List Int) (n e:Int):Int:=if (l.length:Int)<n/\e=0 then 3 else e
def Eh (a b:List Int):tkB (a++b) a.length=a:=by
 unfold tkB;rw[ϓ (by simp;omega)];simp
def Ef (a b:List Int):tkL (a++b) a.length=b:=by
 unfold tkL;simp
def Eg (a b:List Int) (e:Int):tkE (a++b) a.length e=e:=by
 unfold tkE;rw[Ϗ (by simp;omega)]
def zZ {a b:List Int} (d:Byt a) (G:Byt b):Byt (a++b):=by
 intro i;by_cases h:i<a.length
 ·have:=d i;rw[ϒ] at this ⊢;rw[Ψ h];exact this
 ·have:=G (i-a.length);rw[ϒ] at this ⊢;rw[ε τ];exact this
def zn (h:qu w R l e C):
  Calls prog 160 #[γ R] w λG w'=>G= .returned (ι l.length)/\w'=w:=by
 obtain⟨⟨v,d,⟨I,cap,rfl,_⟩,_⟩,_⟩:=h;have H:=β0 d;clear d
 go_enter func160,ntmps160
 go_wp2;go_ret;exact⟨rfl,rfl⟩
def Lx (v:Value) (l:List Int) (w:World) (U:SlI .u8 w v l) (N:Byt l) (H:l.length<=1000000):
  Calls prog 154 #[v] w λe w'=> ∃R,e= .returned (γ R)/\w.heap.size<=R/\qu w' R l 0/\ql w w':=by
 go_enter func154,ntmps154
 go_wp2_with (go_at_call 68;refine(Od v l w U H).mono ?_;rintro e w2 ⟨ac,rfl,d,I⟩;have J:=κ d;have G:=κ I;obtain⟨ab,aa,Y,rfl,O⟩:=qfO d;clear d I O)
 go_ret;exact⟨_,rfl,G.o.size,⟨⟨_,qj _ _,(SlI.of_owns J.o τ).keep X6,λ_ _ _=>trivial⟩,H,N,λh=>ϧ rfl h⟩,G.o.al _⟩
def NV (v:Value) (l:List Int) (w:World) (U:SlI .u8 w v l) (N:Byt l) (I:l.length<=1000000):
  Calls prog 154 #[v] w λe w'=> ∃R,e= .returned (γ R)/\w.heap.size<=R/\qu w' R l 0 (λg=>w.heap.size<=g/\g<w'.heap.size)/\ql w w':=by
 go_enter func154,ntmps154
 go_wp2_with (go_at_call 68;refine(Od v l w U I).mono ?_;rintro e w2 ⟨ac,rfl,G,J⟩;have d:=κ G;have H:=κ J;obtain⟨ab,aa,Y,rfl,O⟩:=qfO G;clear G J O)
 go_ret;exact⟨_,rfl,H.o.size,⟨⟨_,qj _ _,(SlI.of_owns d.o τ).keep X6,λ_ g y=>⟨jG d.o y,ϗ (gB d.o y) X6.size⟩⟩,I,N,λh=>ϧ rfl h⟩,H.o.al _⟩
def gf (h:qu w R l e C) (x:Int) (d:x=0∨(¬x=0/\ ¬e=0)):
  Calls prog 158 #[γ R,ι x] w λH w'=>H= .returned (.tuple #[])/\w'=w:=by
 obtain⟨⟨v,G,I,J⟩,_⟩:=h;have c1:=β1 G;clear G I J;rcases d with d | ⟨d,he⟩
 ·subst d
  go_enter func158,ntmps158
  go_wp2;refine bodyPost_ret (v:= .tuple #[]) ?rr rfl ?_
  case rr=>simp[results,results158,go_sem]
  exact⟨rfl,rfl⟩
 ·have N:(x==0)=ύ:=by simpa using d
  have O:(e != 0)=ό:=by simpa using he
  go_enter func158,ntmps158
  go_wp2;refine bodyPost_ret (v:= .tuple #[]) ?rr rfl ?_
  case rr=>simp[results,results158,go_sem]
  exact⟨rfl,rfl⟩
def Jd (h:qu w R l 0 C) (x:Int) (I: ¬x=0):
  Calls prog 158 #[γ R,ι x] w λH w'=>H= .returned (.tuple #[])/\qu w' R [] x C/\jt (λb=>b=R) w w':=by
 obtain⟨⟨v,d,⟨Y,cap,rfl,_⟩,_⟩,_⟩:=h;have J:=β0 d;have c1:=β1 d;have N:=yw d 0;have O:=yw d 1;have G:=κ d;have U:(x==0)=ύ:=by simpa using I
 clear d
 go_enter func158,ntmps158
 go_wp2;refine bodyPost_end (v:= .tuple #[]) ?rr rfl ?_
 case rr=>simp[results,results158,go_sem]
 exact⟨rfl,⟨⟨_,qB (qp (qp G.o 1 _) 0 _) rfl,SlI.nil _ _,λx=>ϧ rfl x⟩,η,xh,λ_=>rfl⟩,((jt.refl (λb=>b=R) w).set (p:=⟨R,1,ϋ⟩) rfl _).set (p:=⟨R,0,ϋ⟩) rfl _⟩
def Wg (n:Int) (G:n<=0) (h:qu w R l e C):
  Calls prog 198 #[γ R,ι n] w λd w'=>d= .returned (δ ϋ 0 0)/\w'=w:=by
 clear h
 go_enter func198,ntmps198
 go_wp2;go_ret;exact⟨rfl,rfl⟩
def Y9 (n:Int) (Y:0<n) (O:(l.length:Int)<n) (h:qu w R l e C):
  Calls prog 198 #[γ R,ι n] w λJ w'=>J= .returned (δ ϋ 0 0)/\qu w' R [] (tkE l n e) C/\jt (λb=>b=R) w w':=by
 have d:=κ h;obtain⟨⟨v,G,⟨aa,cap,rfl,_⟩,_⟩,_⟩:=h;have U:=β0 G;clear G;by_cases he:e=0
 ·subst he
  go_enter func198,ntmps198
  go_wp2_with (go_at_call 158;refine(Jd d.o 3 ζ).mono ?_;rintro e w2 ⟨rfl,N,I⟩)
  go_ret;refine⟨rfl, ?_,I⟩;have:tkE l n 0=3:=by unfold tkE;rw[ϓ ⟨O,rfl⟩]
  rw[this];exact N
 ·go_enter func198,ntmps198
  go_wp2_with (go_at_call 158;refine(gf d.o 3 (ϕ ⟨ζ,he⟩)).mono ?_;rintro e w2 ⟨rfl,rfl⟩)
  go_ret;have H:=d.o;have:tkE l n e=e:=by unfold tkE;rw[Ϗ (λx=>he x.2)]
  rw[this];obtain rfl:=H.shut he;exact⟨rfl,H,jt.refl _ _⟩
def Bx {c m G k k':Nat} (h:(δ (if c=n then d else d.map (·.add n)) m k).ownBlock=ϊ g):(δ d G k').ownBlock=ϊ g:=by
 by_cases e:c=n
 ·rw[ϓ e] at h;cases d<;>exact h
 ·rw[Ϗ e] at h;cases d with
  | none=>exact h
  | some a=>
   simp only[D9,Value.ownBlock] at h ⊢;rw[<-h];unfold Addr.add;split<;>rfl
def KB (n:Nat) (ay:0<n) (ac:n<=l.length) (h:qu w R l e C):
  Calls prog 198 #[γ R,ι n] w λak w'=> ∃v',ak= .returned v'/\SlI .u8 w' v' (l.take n)/\qu w' R (l.drop n) e C/\jt (λb=>b=R) w w':=by
 have au:=κ h;have af:=λo x=>Ke h o x
 have aj:=κ af;obtain⟨⟨v,H,Y,ab⟩,ax,am,aa⟩:=h;have ai:=κ ab;clear ab;have ag:=κ H;have O:=κ Y;obtain⟨N,cap,rfl,an,ao,ap,aq,ar⟩:=Y;have av:=β0 H;have aw:=yw H 0;have aB: ¬(l.length:Int)<(n:Int):=by omega
 have az:(n:Int)<=(cap:Int):=by omega
 have aC:(n:Int)<=(l.length:Int):=by omega
 have aA:(0:Int)<=(n:Int):=by omega
 have ah:=κ aa;clear H an ao ap aq ar aa af;have ae: ∀G d,(G=if cap=n then N else N.map (·.add n))->d=cap-n-> ∃v',Ending.returned (δ N n n)= .returned v'/\SlI .u8 (w.setCell ⟨R,0,ϋ⟩ (δ G (l.length-n) d)) v' (l.take n)/\qu (w.setCell ⟨R,0,ϋ⟩ (δ G (l.length-n) d)) R (l.drop n) e C/\jt (λb=>b=R) w (w.setCell ⟨R,0,ϋ⟩ (δ G (l.length-n) d)):=by
  intro G d U al;have I:jt (λb=>b=R) w (w.setCell ⟨R,0,ϋ⟩ (δ G (l.length-n) d)):=(jt.refl (λb=>b=R) w).set (p:=⟨R,0,ϋ⟩) rfl _;have ad: ∀b,b=R-> ∀o x,w.cell? ⟨b,o,ϋ⟩≠ϊ (υ x):=by rintro b rfl;exact aj.o
  subst al;exact⟨_,rfl,((O.o.take3 n ac).away I ad),⟨⟨_,qB (qp ag.o 0 _) rfl,(O.o.from_ n ac _ U).away I ad,λx g y=>ai.o (λz=>x (by rw[z];simp)) g (by subst U;exact Bx y)⟩,by simp;omega,am.drop n,λx=>by rw[ah.o x];simp⟩,I⟩
 have J:=κ ae;clear ae
 go_enter func198,ntmps198
 go_wp2
 all_goals (go_ret;first | exact J.o _ _ rfl rfl | exact J.o _ _ (by rw[ϓ τ]) τ | exact J.o _ _ (by rw[Ϗ τ]) rfl)
def kV (n:Int) (h:qu w R l e C):
  Calls prog 198 #[γ R,ι n] w λH w'=> ∃v',H= .returned v'/\SlI .u8 w' v' (tkB l n)/\qu w' R (tkL l n) (tkE l n e) C/\jt (λb=>b=R) w w':=by
 by_cases h0:n<=0
 ·refine(Wg n h0 h).mono ?_;rintro H w' ⟨rfl,rfl⟩;have O:n.toNat=0:=by omega
  have d:tkB l n=[]:=by unfold tkB;rw[O];split<;>simp
  have J:tkE l n e=e:=by unfold tkE;rw[Ϗ τ]
  have G:tkL l n=l:=by unfold tkL;rw[O];simp
  rw[d,J,G];exact⟨_,rfl,SlI.nil _ _,h,jt.refl _ _⟩
 ·by_cases h1:(l.length:Int)<n
  ·refine(Y9 n τ h1 h).mono ?_;rintro H w' ⟨rfl,N,I⟩;have d:tkB l n=[]:=by unfold tkB;rw[Ϗ τ]
   have G:tkL l n=[]:=by unfold tkL;exact K7 τ
   rw[d,G];exact⟨_,rfl,SlI.nil _ _,N,I⟩
  ·obtain⟨k,rfl⟩: ∃k:Nat,n=k:=⟨n.toNat,τ⟩;refine(KB k τ τ h).mono ?_;rintro H w' ⟨v',rfl,N,U,I⟩;have d:tkB l k=l.take k:=by unfold tkB;rw[ϓ τ];simp
   have G:tkL l k=l.drop k:=by unfold tkL;simp
   have J:tkE l k e=e:=by unfold tkE;rw[Ϗ τ]
   rw[d,J,G];exact⟨_,rfl,N,U,I⟩
def jL (h:Byt l) (n:Int):Byt (tkB l n):=by
 unfold tkB;split
 ·exact h.take _
 ·exact xh
def zh (l:List Int) (n:Int) (d:0<=n):((tkB l n).length:Int)<=n:=by
 unfold tkB;split
 ·rw[Ϥ];omega
 ·exact d
def zv (l:List Int) (k:Nat) (h:Byt l) (H:(l.length:Int)<=k) (G:k<=8):0<=num l/\num l<2 ^ (8* k):=by
 have d:=Yy l h;rw[uD l h τ];refine⟨d.1,K8 d.2 ?_⟩;have:2 ^ (8* l.length)<=2 ^ (8* k):=C9 ζ τ
 exact_mod_cast this
def Zl (h:qu w R l e C) (n:Nat) (ad:n<=1):
  Calls prog 197 #[.func (.func 198) #[γ R] #[],ι n] w λO w'=>O= .returned (υ (num (tkB l n)))/\qu w' R (tkL l n) (tkE l n e) C/\jt (λb=>b=R) w w':=by
 have H:=jL h.byt n;have d:=zv (tkB l n) n H (zh l n τ) τ;have I:(2:Int) ^ (8* n)<=2 ^ (8* 1):=by
  have:2 ^ (8* n)<=2 ^ (8* 1):=C9 ζ τ
  exact_mod_cast this
 have J:IntKind.u8.wrap (num (tkB l n))=num (tkB l n):=G6 d.1 (K8 d.2 I);have G:=κ J;clear J d I
 go_enter func197,ntmps197
 go_wp2_with first | (go_at_call 198;refine(kV n h).mono ?_;rintro ab w1 ⟨aa,rfl,Y,U,N⟩) | (go_at_call 258;refine(gg _ aa _ Y H).mono ?_;rintro ac w2 ⟨rfl,rfl⟩)
 go_ret;exact⟨by first | exact xV G.o | rfl | exact Γ _ (by rw[G.o]),U,N⟩
def Jp (h:qu w R l e C) (n:Nat) (ad:n<=2):
  Calls prog 199 #[.func (.func 198) #[γ R] #[],ι n] w λO w'=>O= .returned (φ (num (tkB l n)))/\qu w' R (tkL l n) (tkE l n e) C/\jt (λb=>b=R) w w':=by
 have H:=jL h.byt n;have d:=zv (tkB l n) n H (zh l n τ) τ;have I:(2:Int) ^ (8* n)<=2 ^ (8* 2):=by
  have:2 ^ (8* n)<=2 ^ (8* 2):=C9 ζ τ
  exact_mod_cast this
 have J:IntKind.u16.wrap (num (tkB l n))=num (tkB l n):=G6 d.1 (K8 d.2 I);have G:=κ J;clear J d I
 go_enter func199,ntmps199
 go_wp2_with first | (go_at_call 198;refine(kV n h).mono ?_;rintro ab w1 ⟨aa,rfl,Y,U,N⟩) | (go_at_call 258;refine(gg _ aa _ Y H).mono ?_;rintro ac w2 ⟨rfl,rfl⟩)
 go_ret;exact⟨by first | exact xV G.o | rfl | exact Γ _ (by rw[G.o]),U,N⟩
def ub (h:qu w R l e C) (n:Nat) (ad:n<=4):
  Calls prog 200 #[.func (.func 198) #[γ R] #[],ι n] w λO w'=>O= .returned (ω (num (tkB l n)))/\qu w' R (tkL l n) (tkE l n e) C/\jt (λb=>b=R) w w':=by
 have H:=jL h.byt n;have d:=zv (tkB l n) n H (zh l n τ) τ;have I:(2:Int) ^ (8* n)<=2 ^ (8* 4):=by
  have:2 ^ (8* n)<=2 ^ (8* 4):=C9 ζ τ
  exact_mod_cast this
 have J:IntKind.u32.wrap (num (tkB l n))=num (tkB l n):=G6 d.1 (K8 d.2 I);have G:=κ J;clear J d I
 go_enter func200,ntmps200
 go_wp2_with first | (go_at_call 198;refine(kV n h).mono ?_;rintro ab w1 ⟨aa,rfl,Y,U,N⟩) | (go_at_call 258;refine(gg _ aa _ Y H).mono ?_;rintro ac w2 ⟨rfl,rfl⟩)
 go_ret;exact⟨by first | exact xV G.o | rfl | exact Γ _ (by rw[G.o]),U,N⟩
def jT (h:qu w R l e C):
  Calls prog 155 #[γ R] w λG w'=>G= .returned (υ (num (tkB l 1)))/\qu w' R (tkL l 1) (tkE l 1 e) C/\jt (λb=>b=R) w w':=by
 go_enter func155,ntmps155
 go_wp2_with (go_at_call 197;refine(Zl h 1 ζ).mono ?_;rintro I w1 ⟨rfl,H,d⟩)
 go_ret;exact⟨rfl,H,d⟩
def xn (h:qu w R l e C):
  Calls prog 156 #[γ R] w λG w'=>G= .returned (φ (num (tkB l 2)))/\qu w' R (tkL l 2) (tkE l 2 e) C/\jt (λb=>b=R) w w':=by
 go_enter func156,ntmps156
 go_wp2_with (go_at_call 199;refine(Jp h 2 ζ).mono ?_;rintro I w1 ⟨rfl,H,d⟩)
 go_ret;exact⟨rfl,H,d⟩
def Je (h:qu w R l e C):
  Calls prog 311 #[γ R] w λG w'=>G= .returned (ω (num (tkB l 3)))/\qu w' R (tkL l 3) (tkE l 3 e) C/\jt (λb=>b=R) w w':=by
 go_enter func311,ntmps311
 go_wp2_with (go_at_call 200;refine(ub h 3 ζ).mono ?_;rintro I w1 ⟨rfl,H,d⟩)
 go_ret;exact⟨rfl,H,d⟩
def jD (h:qu w R l e C):
  Calls prog 157 #[γ R] w λG w'=>G= .returned (ω (num (tkB l 4)))/\qu w' R (tkL l 4) (tkE l 4 e) C/\jt (λb=>b=R) w w':=by
 go_enter func157,ntmps157
 go_wp2_with (go_at_call 200;refine(ub h 4 ζ).mono ?_;rintro I w1 ⟨rfl,H,d⟩)
 go_ret;exact⟨rfl,H,d⟩
def Vm (l:List Int) (n:Int):(tkB l n).length<=l.length:=by
 unfold tkB;split
 ·rw[Ϥ];omega
 ·simp
def qbY {d e size:Nat} (h:w.ownsRow base e size v n xs) (I:d<=base):w.ownsRow d e size v n xs:=by
 obtain⟨G,H⟩:=h;refine⟨G, ?_⟩;rcases H with h | ⟨b,cap,cur,e1,hb',rest⟩
 ·exact ϑ h
 ·exact ϕ ⟨b,cap,cur,e1,ϙ I hb',rest⟩
def QI (n:Int) (h:qu w R l e C):
  Calls prog 159 #[γ R,ι n] w λH w'=> ∃v',H= .returned v'/\w'.ownsRow w.heap.size 5 1 v' (tkB l n).length ((tkB l n).map (Value.int .u8))/\qu w' R (tkL l n) (tkE l n e) C/\jt (λb=>b=R) w w':=by
 have ab:=Vm l n;have aa:=h.small
 go_enter func159,ntmps159
 go_wp2_with first | (go_at_call 198;refine(kV n h).mono ?_;rintro U w1 ⟨O,rfl,N,I,d⟩) | (go_at_call 68;refine(Od O _ _ N τ).mono ?_;rintro Y w2 ⟨ac,rfl,J,G⟩)
 go_ret;exact⟨_,rfl,qbY J d.size,I.more G,d.more G⟩
def yT (h:qu w R l e C):
  Calls prog 162 #[γ R] w λG w'=>G= .returned (ι (if ¬e=0 then e else if 0<l.length then 4 else 0))/\w'=w:=by
 obtain⟨⟨v,d,⟨O,cap,rfl,_⟩,_⟩,_,_,J⟩:=h;have I:=β0 d;have c1:=β1 d;clear d;by_cases he:e=0
 ·subst he;by_cases hl:0<l.length
  ·have H:(0:Int)<(l.length:Int):=by omega
   go_enter func162,ntmps162
   go_wp2;go_ret;simp[hl]
  ·have H: ¬(0:Int)<(l.length:Int):=by omega
   go_enter func162,ntmps162
   go_wp2;go_ret;simp[hl]
 ·have N:(e != 0)=ό:=by simpa using he
  go_enter func162,ntmps162
  go_wp2;go_ret;simp[he]
abbrev U16 (n:Int):Prop:=0<=n/\n<=65535
def qK (n s:Int) (d:0<=s/\s<=8):(qy n s).length=s.toNat:=by
 rw[gQ n s d,zP]
def Xi (x:Int) (k:Nat) (H:0<=x) (G:k<=8) (h:x<2 ^ (8* k)):num (qy x k)=x:=by
 have d:qy x k=bys x k:=by rw[gQ _ _ τ];simp
 rw[d,uD _ (JF _ _) (by rw[zP];exact G),VA];exact G6 H h
def uM {n:Int} (d:0<=n) (h:n<=l.length):l=tkB l n++tkL l n/\((tkB l n).length:Int)=n:=by
 unfold tkB tkL;rw[ϓ h];refine⟨(A7 _ _).symm, ?_⟩;rw[Ϥ];omega
def gR (h:Byt l) (k:Nat) (H:(l.length:Int)=k) (G:k<=8):qy (num l) k=l:=by
 have d:l.length=k:=by omega
 rw[gQ _ _ τ];simp only[A5];rw[<-d];exact qbB l h τ
abbrev RdS:=List Int×Int
variable {s:RdS}
def wrS (s:RdS) (x:Int):RdS:=if x=0∨ ¬s.2=0 then s else ([],x)
def tkS (s:RdS) (n:Int):RdS:=(tkL s.1 n,tkE s.1 n s.2)
def zo (h:qu w R s.1 s.2 C) (x:Int):
  Calls prog 158 #[γ R,ι x] w λd w'=>d= .returned (.tuple #[])/\qu w' R (wrS s x).1 (wrS s x).2 C/\jt (λb=>b=R) w w':=by
 obtain⟨l,e⟩:=s;simp only at h;by_cases hx:x=0
 ·refine(gf h x (ϑ hx)).mono ?_;rintro d w' ⟨rfl,rfl⟩;have:wrS (l,e) x=(l,e):=by unfold wrS;rw[ϓ (ϑ hx)]
  rw[this];exact⟨rfl,h,jt.refl _ _⟩
 ·by_cases he:e=0
  ·subst he;refine(Jd h x hx).mono ?_;rintro d w' ⟨rfl,H,G⟩;have:wrS (l,0) x=([],x):=by unfold wrS;rw[Ϗ (by simp[hx])]
   rw[this];exact⟨rfl,H,G⟩
  ·refine(gf h x (ϕ ⟨hx,he⟩)).mono ?_;rintro d w' ⟨rfl,rfl⟩;have:wrS (l,e) x=(l,e):=by unfold wrS;rw[ϓ (ϕ he)]
   rw[this];exact⟨rfl,h,jt.refl _ _⟩
abbrev U32 (n:Int):Prop:=0<=n/\n<=4294967295
def adv (s:RdS) (n:Nat):RdS:=if s.2=0 then (if n<=s.1.length then (s.1.drop n,0) else ([],3)) else ([],s.2)
def Jm (s:RdS):Prop:= ¬s.2=0->s.1=[]
def gz (n:Nat) (h:Jm s):tkS s n=adv s n:=by
 obtain⟨l,e⟩:=s;unfold tkS adv tkL tkE;simp only[A5];by_cases he:e=0
 ·subst he;rw[ϓ rfl];by_cases hn:n<=l.length
  ·rw[ϓ hn,Ϗ τ]
  ·rw[Ϗ hn,ϓ τ,K7 τ]
 ·have d:l=[]:=h he;subst d;rw[Ϗ he,Ϗ (λx=>he x.2)];simp
def vj (s:RdS) (n:Nat):Jm (adv s n):=by
 unfold Jm adv;split
 ·split
  ·intro h;exact ϧ rfl h
  ·intro _;rfl
 ·intro _;rfl
def gG (s:RdS) (a b:Nat):adv (adv s a) b=adv s (a+b):=by
 obtain⟨l,e⟩:=s;unfold adv;simp only;by_cases he:e=0
 ·subst he;simp only[C1];by_cases ha:a<=l.length
  ·rw[ϓ ha];simp only[C1,Ϭ,List.drop_drop];by_cases hb:a+b<=l.length
   ·rw[ϓ τ,ϓ hb]
   ·rw[Ϗ τ,Ϗ hb]
  ·rw[Ϗ ha];simp;omega
 ·rw[Ϗ he,Ϗ he];simp[he]
def xF (a b:Nat):tkS (adv s a) b=adv s (a+b):=by rw[gz b (vj s a),gG]
def Cu (h:Jm s):adv s 0=s:=by
 obtain⟨l,e⟩:=s;unfold adv;by_cases he:e=0
 ·subst he;simp
 ·have d:l=[]:=h he;subst d;simp[he]
def QH (x:Int):qy (x%16777216) 3=qy x 3:=by
 have h: ∀j,j<3->by8 (x%16777216) j=by8 x j:=by
  intro j d;unfold by8
  match j,d with
  | 0,_=>simp
  | 1,_=>simp;omega
  | 2,_=>simp;omega
 show [by8 (x%16777216) 2,by8 (x%16777216) 1,by8 (x%16777216) 0]=[by8 x 2,by8 x 1,by8 x 0];rw[h 0 ζ,h 1 ζ,h 2 ζ]
def JY (x:Int) (k:Nat) (G:k<=8) (r:List Int):tkS (qy x k++r,0) k=(r,0)/\tkB (qy x k++r) k=qy x k:=by
 have d:((qy x k).length:Int)=k:=by rw[qK _ _ τ];simp
 have a:=Eh (qy x k) r;have b:=Ef (qy x k) r;have c:=Eg (qy x k) r 0;rw[d] at a b c;unfold tkS;simp only[a,b,c,and_self]
def wU (k:Nat) (G:k<=8) (d:Byt L) (h:k<=L.length): ∃x r,L=qy x k++r/\0<=x/\x<2 ^ (8* k)/\Byt r:=by
 obtain⟨j,q⟩:=uM (l:=L) (n:=(k:Int)) τ τ;have H:=zv (tkB L k) k (jL d k) τ G;refine⟨num (tkB L k),tkL L k, ?_,H.1,H.2,d.drop _⟩;rw[gR (jL d k) k q G];exact j
def xv (J:Byt L) (h:4<=L.length): ∃x r,L=qy x 4++r/\U32 x/\Byt r:=by
 obtain⟨x,r,G,H,d,I⟩:=wU 4 ζ J h;have d:x<4294967296:=d;exact⟨x,r,G,⟨H,τ⟩,I⟩
structure Pk where
 mr:Bool
 ty:Int
 sq:Int
 st:Int
 sc:Int
 ss:List Int
 has:Bool
 pr:Int
 ex:List Int
 pl:List Int
def pk0:Pk:=⟨ύ,0,0,0,0,[],ύ,0,[],[]⟩
structure uf (p:Pk):Prop where
 ty:0<=p.ty/\p.ty<=255
 sq:U16 p.sq
 st:U32 p.st
 sc:U32 p.sc
 ss: ∀i,U32 (p.ss.getD i 0)
 pr:U16 p.pr
 ex:Byt p.ex
 pl:Byt p.pl
def ww (p:Pk):Int:=12+4* (p.ss.length:Int)+(p.pl.length:Int)+if p.has then 4+(p.ex.length:Int) else 0
def jJ (p:Pk):Bool:=decide (p.ty<=127)&&decide ((p.ss.length:Int)<=15)&&(p.has||(decide (p.pr=0)&&decide (p.ex=[])))&&decide ((p.ex.length:Int)%4=0)&&decide (ww p<=200)
def yq (p:Pk):jJ p=ό↔p.ty<=127/\(p.ss.length:Int)<=15/\(p.has=ύ->p.pr=0/\p.ex=[])/\(p.ex.length:Int)%4=0/\ww p<=200:=by
 unfold jJ;cases h:p.has<;>simp[and_assoc]
def CT (p:Pk):Int:=128+(p.ss.length:Int)+if p.has then 16 else 0
def CN (p:Pk):Int:=p.ty+if p.mr then 128 else 0
def ssB (l:List Int):List Int:=l.flatMap λx=>qy x 4
def AP (l:List Int) (x:Int):ssB (l++[x])=ssB l++qy x 4:=by simp[ssB]
def WE (l:List Int):(ssB l).length=4* l.length:=by
 induction l with
 | nil=>rfl
 | cons x l ih=>
  show (qy x 4++ssB l).length=_;rw[ώ,ih,qK _ _ ζ,Ϙ];show 4+4* l.length=_;omega
def CV (p:Pk):List Int:=qy (CT p) 1++qy (CN p) 1++qy p.sq 2++qy p.st 4++qy p.sc 4
def Hz (p:Pk):List Int:=qy p.pr 2++qy ((p.ex.length:Int)/4) 2++p.ex
def DB (p:Pk):List Int:=CV p++ssB p.ss++if p.has then Hz p else []
def pkB (p:Pk):List Int:=DB p++p.pl
def j9:Nat->RdS->List Int×RdS
 | 0,s=>([],s)
 | n+1,s=>((j9 n s).1++[num (tkB (j9 n s).2.1 4)],tkS (j9 n s).2 4)
def xL (b:List Int):List Int×Bool:=
 if b=[] then ([],ύ) else if b.getD (b.length-1) 0=0∨(b.length:Int)<b.getD (b.length-1) 0 then ([],ύ) else (b.take (b.length-(b.getD (b.length-1) 0).toNat),ό)
def vB (f:Int) (s:RdS):List Int×Int:=
 if ¬s.2=0 then ([],s.2) else if f/32%2=1 then (if (xL s.1).2 then ((xL s.1).1,0) else ([],2)) else (s.1,0)
def Qj (s:RdS):(Int×List Int)×RdS:=((num (tkB s.1 2),tkB (tkS (tkS s 2) 2).1 (4* num (tkB (tkS s 2).1 2))),tkS (tkS (tkS s 2) 2) (4* num (tkB (tkS s 2).1 2)))
def yj (f:Int) (s:RdS):(List Int×Int×List Int)×RdS:=
 if f/16%2=1 then (((j9 (f%16).toNat s).1,(Qj (j9 (f%16).toNat s).2).1.1,(Qj (j9 (f%16).toNat s).2).1.2),(Qj (j9 (f%16).toNat s).2).2)
 else (((j9 (f%16).toNat s).1,0,[]),(j9 (f%16).toNat s).2)
def s1H (b:List Int):RdS:=tkS (b,0) 1
def s2H (b:List Int):RdS:=tkS (s1H b) 1
def s3H (b:List Int):RdS:=tkS (s2H b) 2
def s4H (b:List Int):RdS:=tkS (s3H b) 4
def s5H (b:List Int):RdS:=tkS (s4H b) 4
def yy (f:Int) (s:RdS):RdS:=if f<128∨191<f then wrS s 2 else s
def fH (b:List Int):Int:=num (tkB b 1)
def gH (b:List Int):Int:=num (tkB (s1H b).1 1)
def mkH (b:List Int) (x:List Int×Int×List Int) (l:List Int):Pk:=
 ⟨decide (128<=gH b),gH b%128,num (tkB (s2H b).1 2),num (tkB (s3H b).1 4),num (tkB (s4H b).1 4),x.1,decide (fH b/16%2=1),x.2.1,x.2.2,l⟩
def JJ (b:List Int) (x:(List Int×Int×List Int)×RdS):Pk×Int:=
 if (vB (fH b) x.2).2=0 then (mkH b x.1 (vB (fH b) x.2).1,0) else (pk0,(vB (fH b) x.2).2)
def jl (b:List Int):Pk×Int:=
 if (200:Int)<b.length then (pk0,4) else JJ b (yj (fH b) (yy (fH b) (s5H b)))
def WI (b:List Int):s5H b=adv (b,0) 12:=by
 have h:Jm (b,0):=λh=>ϧ rfl h
 show tkS (tkS (tkS (tkS (tkS (b,0) (1:Nat)) (1:Nat)) (2:Nat)) (4:Nat)) (4:Nat)=_;rw[gz 1 h,xF,xF,xF,xF]
def gN: ∀(n:Nat) (s:RdS),(j9 n s).1.length=n
 | 0,_=>rfl
 | n+1,s=>by
  show ((j9 n s).1++[_]).length=_;rw[ώ,gN n];rfl
def WB (e n:Int) (h: ¬e=0):tkS ([],e) n=([],e):=by
 unfold tkS;rw[tkL_nil',tkE_bad h]
where
 tkL_nil':tkL ([]:List Int) n=[]:=by unfold tkL;simp
 tkE_bad (he: ¬e=0):tkE [] n e=e:=by unfold tkE;rw[Ϗ (λx=>he x.2)]
def Xd (e:Int) (h: ¬e=0): ∀n,(j9 n ([],e)).2=([],e)
 | 0=>rfl
 | n+1=>by
  show tkS (j9 n ([],e)).2 4=_;rw[Xd e h n,WB e 4 h]
def GH (f e:Int) (h: ¬e=0):(yj f ([],e)).2=([],e):=by
 unfold yj Qj;split
 ·simp only[Xd e h,WB e _ h]
 ·simp only[Xd e h]
def VS (b:List Int) (f e:Int) (h: ¬e=0):JJ b (yj f ([],e))=(pk0,e):=by
 have d:vB (fH b) (yj f ([],e)).2=([],e):=by
  rw[GH f e h];unfold vB;rw[ϓ h]
 unfold JJ;rw[d];simp only;rw[Ϗ h]
def Ry (b:List Int):Pk×Int:=
 if (200:Int)<b.length then (pk0,4) else if (b.length:Int)<12 then (pk0,3) else if fH b<128∨191<fH b then (pk0,2) else JJ b (yj (fH b) (b.drop 12,0))
def GP (b:List Int):Ry b=jl b:=by
 unfold Ry jl;by_cases h1:(200:Int)<b.length
 ·rw[ϓ h1,ϓ h1]
 rw[Ϗ h1,Ϗ h1];have d:s5H b=if 12<=b.length then (b.drop 12,0) else ([],3):=by
  rw[WI];unfold adv;simp
 by_cases h2:(b.length:Int)<12
 ·rw[ϓ h2];rw[Ϗ τ] at d;have:yy (fH b) ([],3)=([],3):=by unfold yy wrS;simp
  rw[d,this,VS b _ 3 ζ]
 rw[Ϗ h2];rw[ϓ τ] at d;rw[d];by_cases h3:fH b<128∨191<fH b
 ·rw[ϓ h3];have:yy (fH b) (b.drop 12,0)=([],2):=by unfold yy wrS;rw[ϓ h3];simp
  rw[this,VS b _ 2 ζ]
 ·rw[Ϗ h3];have:yy (fH b) (b.drop 12,0)=(b.drop 12,0):=by unfold yy;rw[Ϗ h3]
  rw[this]
def Cl (p:Pk):(CV p).length=12:=by
 unfold CV;simp only[ώ,qK _ 1 ζ,qK _ 2 ζ,qK _ 4 ζ]
 decide
def Bp (p:Pk):((DB p).length:Int)=12+4* (p.ss.length:Int)+if p.has then 4+(p.ex.length:Int) else 0:=by
 unfold DB;rw[ώ,ώ,Cl,WE];cases p.has
 ·simp
 ·simp only[C1,Hz,ώ,qK _ 2 ζ];show ((12+4* p.ss.length+(2+2+p.ex.length):Nat):Int)=_;omega
def Ey (p:Pk):((pkB p).length:Int)=ww p:=by
 unfold pkB ww;rw[ώ];have:=Bp p;omega
def Γh (x:Pk) (a:Option Addr) (b:Nat) (c:Option Addr) (d:Nat) (e:Option Addr) (f:Nat):Mm:=.o
instance (x:Pk) (a:Option Addr) (b:Nat) (c:Option Addr) (d:Nat) (e:Option Addr) (f:Nat):CoeDep Mm (Γh x a b c d e f) (List Value):=⟨[μ x.mr,υ x.ty,φ x.sq,ω x.st,ω x.sc,δ a x.ss.length b,μ x.has,φ x.pr,δ c x.ex.length d,δ e x.pl.length f]⟩
instance (x:Pk) (a:Option Addr) (b:Nat) (c:Option Addr) (d:Nat) (e:Option Addr) (f:Nat):CoeDep Mm (Γh x a b c d e f) (Array Value):=⟨((Γh x a b c d e f):List Value).toArray⟩
instance (x:Pk) (a:Option Addr) (b:Nat) (c:Option Addr) (d:Nat) (e:Option Addr) (f:Nat):CoeDep Mm (Γh x a b c d e f) Value:=⟨θ (Γh x a b c d e f)⟩
def Γi (k:Int) (l:Int) (n:Int) (x:Pk) (a:Option Addr) (b:Nat) (c:Option Addr) (d:Nat) (e:Option Addr) (f:Nat):Mm:=.o
instance (k:Int) (l:Int) (n:Int) (x:Pk) (a:Option Addr) (b:Nat) (c:Option Addr) (d:Nat) (e:Option Addr) (f:Nat):CoeDep Mm (Γi k l n x a b c d e f) (List Value):=⟨[ι k,ι l,ι n,μ x.mr,υ x.ty,φ x.sq,ω x.st,ω x.sc,δ a x.ss.length b,μ x.has,φ x.pr,δ c x.ex.length d,δ e x.pl.length f]⟩
instance (k:Int) (l:Int) (n:Int) (x:Pk) (a:Option Addr) (b:Nat) (c:Option Addr) (d:Nat) (e:Option Addr) (f:Nat):CoeDep Mm (Γi k l n x a b c d e f) (Array Value):=⟨((Γi k l n x a b c d e f):List Value).toArray⟩
instance (k:Int) (l:Int) (n:Int) (x:Pk) (a:Option Addr) (b:Nat) (c:Option Addr) (d:Nat) (e:Option Addr) (f:Nat):CoeDep Mm (Γi k l n x a b c d e f) Value:=⟨θ (Γi k l n x a b c d e f)⟩
def Γq (x:Pk) (a:Value) (b:Value) (c:Value):Mm:=.o
instance (x:Pk) (a:Value) (b:Value) (c:Value):CoeDep Mm (Γq x a b c) (List Value):=⟨[μ x.mr,υ x.ty,φ x.sq,ω x.st,ω x.sc,a,μ x.has,φ x.pr,b,c]⟩
instance (x:Pk) (a:Value) (b:Value) (c:Value):CoeDep Mm (Γq x a b c) (Array Value):=⟨((Γq x a b c):List Value).toArray⟩
instance (x:Pk) (a:Value) (b:Value) (c:Value):CoeDep Mm (Γq x a b c) Value:=⟨θ (Γq x a b c)⟩
def Γr (k:Int) (l:Int) (n:Int) (x:Pk) (a:Value) (b:Value) (c:Value):Mm:=.o
instance (k:Int) (l:Int) (n:Int) (x:Pk) (a:Value) (b:Value) (c:Value):CoeDep Mm (Γr k l n x a b c) (List Value):=⟨[ι k,ι l,ι n,μ x.mr,υ x.ty,φ x.sq,ω x.st,ω x.sc,a,μ x.has,φ x.pr,b,c]⟩
instance (k:Int) (l:Int) (n:Int) (x:Pk) (a:Value) (b:Value) (c:Value):CoeDep Mm (Γr k l n x a b c) (Array Value):=⟨((Γr k l n x a b c):List Value).toArray⟩
instance (k:Int) (l:Int) (n:Int) (x:Pk) (a:Value) (b:Value) (c:Value):CoeDep Mm (Γr k l n x a b c) Value:=⟨θ (Γr k l n x a b c)⟩
def XV {o:Oper} {C:World->Prop} (s x:Operand) (t:TypeId)
  (ak:o.op= .call {callee:= .builtin .append,args:= #[s,x],argTypes:= #[t,t]})
  (base:Nat) (e:TypeId) (i:TypeInfo) (z:Value) (bytes:Nat) (ap:P.underlying t=ϊ (.slice e)) (hi:P.info? e=ϊ i) (au:i.zero=ϊ z)
  (ao:i.size=1) (ae:i.bytes=bytes) (av:z.cells.size=1)
  (v:Value) (k:IntKind) (l:List Int) (an:a.eval s=v) (al:w.ownsRow base e 1 v l.length (l.map (Value.int k)))
  (G:Addr) (cap:Nat) (d:List Int) (ar:a.eval x= δ (ϊ G) d.length cap) (ah:SlI k w (δ (ϊ G) d.length cap) d)
  (af:(l.length+d.length)* bytes<=140737488355328) (ax:1<=bytes) (ad:base<=w.heap.size)
  (h: ∀v' w',w'.ownsRow base e 1 v' (l++d).length ((l++d).map (Value.int k))->w.grownBy w' v.ownBlock->(v'.ownBlock=v.ownBlock∨v'.ownBlock=ϊ w.heap.size)->C w'/\K (a.put o.dst v') w'):jn P C o a w K:=by
 have ac:l.length+d.length<=maxLen:=by
  have:=K2 (l.length+d.length) (show 0<bytes by omega);unfold maxLen;omega
 obtain⟨aD,aw,N,ay,ai,az,aA,aB⟩:=ah;cases N
 obtain⟨v',w',am,Y,aa,_,ab⟩:=run_append_own_at (P:=P) w base t o.type e i z 1 bytes ap hi au ao ae av ζ v l.length (l.map (Value.int k)) al G d.length cap (d.map (Value.int k)) η (by
  intro j u I;rw[B6] at I;obtain⟨y,J,rfl⟩:=K6.1 I;obtain⟨aj,aC⟩:=ϣ.1 J;obtain⟨b,off,H,_,ag⟩:=ai j aj;simp only[Q8] at H;subst H;have O:(⟨b,off,ϋ⟩:Addr).add j=⟨b,off+j,ϋ⟩:=by
   unfold Addr.add;split
   ·rename_i U;subst U;rfl
   ·rfl
  rw[O,ag,ϒ,J];rfl) (by
  intro u aq;obtain⟨y,_,rfl⟩:=ο.1 aq
  rfl) ac af ad
 unfold jn execOp;simp only[ak,resolve,invoke,builtin,Sem.run_bind,Sem.run_pure,Result.andThen_ok,K0,Ϛ,C6,an,ar,am];exact h v' w' (by simpa using Y) aa ab
def XU {o:Oper} {C:World->Prop} (s x:Operand) (t:TypeId)
  (J:o.op= .call {callee:= .builtin .append,args:= #[s,x],argTypes:= #[t,t]})
  (base:Nat) (e:TypeId) (i:TypeInfo) (z:Value) (bytes:Nat) (O:P.underlying t=ϊ (.slice e)) (hi:P.info? e=ϊ i) (al:i.zero=ϊ z)
  (ak:i.size=1) (ab:i.bytes=bytes) (am:z.cells.size=1)
  (v:Value) (k:IntKind) (l:List Int) (N:a.eval s=v) (G:w.ownsRow base e 1 v l.length (l.map (Value.int k)))
  (U:Value) (d:List Int) (H:a.eval x=U) (I:SlI k w U d)
  (ae:(l.length+d.length)* bytes<=140737488355328) (ac:1<=bytes) (aa:base<=w.heap.size)
  (h: ∀v' w',w'.ownsRow base e 1 v' (l++d).length ((l++d).map (Value.int k))->w.grownBy w' v.ownBlock->(v'.ownBlock=v.ownBlock∨v'.ownBlock=ϊ w.heap.size)->C w'/\K (a.put o.dst v') w'):jn P C o a w K:=by
 have ag:=I;obtain⟨an,cap,rfl,ao,ap,aq,ar,ah⟩:=I;cases an with
 | some ad=>exact XV s x t J base e i z bytes O hi al ak ab am v k l N G ad cap d H ag ae ac aa h
 | none=>
  have Y:cap=0:=ah rfl;subst Y;have ai:d=[]:=Ϡ τ;subst ai;have aj:=run_append_owned_none (P:=P) (w:=w) base t o.type e i 1 O hi v l.length (l.map (Value.int k)) G;have af:=h v w (by simpa using G) ⟨rfl,rfl,rfl,ϔ _,λ_ _ _=>rfl⟩ (ϑ rfl);simp only[Ϣ] at H;unfold jn execOp;simp only[J,resolve,invoke,builtin,Sem.run_bind,Sem.run_pure,Result.andThen_ok,K0,Ϛ,C6,N,H,aj];exact af
inductive Tr where
 | done
 | op (k:Nat) (b:Bool) (t:Tr)
 | br (ks:List Nat) (f:Nat->Tr)
def Tr.has:Nat->Tr->Bool
 | 0,.done=>ό
 | n+1,.op _ _ t=>t.has n
 | n+1,.br ks f=>ks.all λk=>(f k).has n
 | _,_=>ύ
section
variable {P:Program} {ops:Array Oper} {md:Region.Mode} {C:World->Prop}
def trB (md:Region.Mode) (ops:Array Oper) (T:Nat):Tr->Array Bool->Bool
 | .done,listed=>(Region.ready md ops listed).isEmpty
 | .op k ό t,listed=>decide (k<ops.size)&&decide (Region.ready md ops listed=[k])&&trB md ops T t (listed.setIfInBounds k ό)
 | .op k ύ t,listed=>decide (k<ops.size)&&(Region.ready md ops listed).contains k&&Region.free md ops listed k&&((ops[k]?).map (JU ·.op)).getD ύ&&Wq md ops T k&&trB md ops T t (listed.setIfInBounds k ό)
 | .br ks f,listed=> !ks.isEmpty&&decide (Region.ready md ops listed=ks)&&ks.all λk=>decide (k<ops.size)&&trB md ops T (f k) (listed.setIfInBounds k ό)
def zk (P:Program) (ops:Array Oper) (T:Nat) (C:World->Prop) (Q:Act->World->Prop):Tr->Act->World->Prop
 | .done,a,w=>Q a w
 | .op k ό t,a,w=>if Region.wanted (ops[k]?.getD default) (yielded ops a.tmps) then jn P (Dem T C k) (ops[k]?.getD default) a w (zk P ops T C Q t) else C w/\zk P ops T C Q t (a.put (ops[k]?.getD default).dst undef) w
 | .op k ύ t,a,w=>C w/\if Region.wanted (ops[k]?.getD default) (yielded ops a.tmps) then (ops[k]?.getD default).quiet P a C (λa'=>zk P ops T C Q t a' w) else zk P ops T C Q t (a.put (ops[k]?.getD default).dst undef) w
 | .br ks f,a,w=> ∀k∈ks,if Region.wanted (ops[k]?.getD default) (yielded ops a.tmps) then jn P (Dem T C k) (ops[k]?.getD default) a w (zk P ops T C Q (f k)) else C w/\zk P ops T C Q (f k) (a.put (ops[k]?.getD default).dst undef) w
def yQ {T:Nat} {Q:Act->World->Prop} (N:Region.noSelect ops=ό): ∀(n:Nat) (t:Tr) (listed:Array Bool) (a:Act) (w:World),t.has n=ό->
  trB md ops T t listed=ό->zk P ops T C Q t a w->Qp P md ops T C Q n listed a w
 | 0,.done,_,_,_,_,hB,h=>⟨by simpa [trB] using hB,h⟩
 | 0,.op ..,_,_,_,hh,_,_=>by simp[Tr.has] at hh
 | 0,.br ..,_,_,_,hh,_,_=>by simp[Tr.has] at hh
 | _+1,.done,_,_,_,hh,_,_=>by simp[Tr.has] at hh
 | n+1,.op k ό t,listed,a,w,hh,hB,h=>by
  simp only[trB,C2,C3] at hB;obtain⟨⟨O,J⟩,I⟩:=hB;have H:ops[k]? =ϊ (ops[k]?.getD default):=by simp[O]
  generalize ops[k]?.getD default=o at H;refine⟨λd=>(by rw[J] at d;cases d),λi hi=> ?_⟩;rw[J] at hi;obtain rfl:i=k:=by simpa using hi
  unfold yn;unfold zk at h;simp only[H,ϰ] at h ⊢;split
  ·rename_i G;rw[ϓ G] at h;exact wj (λa' w' _ U=>yQ N n t _ a' w' hh I U) h
  ·rename_i G;rw[Ϗ G] at h;exact⟨yF h.1,yQ N n t _ _ w hh I h.2⟩
 | n+1,.op k ύ t,listed,a,w,hh,hB,h=>by
  simp only[trB,C2,C3] at hB;obtain⟨⟨⟨⟨⟨O,J⟩,ad⟩,Y⟩,af⟩,I⟩:=hB;have H:ops[k]? =ϊ (ops[k]?.getD default):=by simp[O]
  generalize ops[k]?.getD default=o at H;rw[H] at Y;simp only[D9,ϰ] at Y;unfold zk at h;simp only[H,ϰ] at h;obtain⟨ab,h⟩:=h;obtain⟨v,ag,ac⟩: ∃v,gp P ops C o v a/\zk P ops T C Q t (a.put o.dst v) w:=by
   by_cases G:Region.wanted o (yielded ops a.tmps)=ό
   ·rw[ϓ G] at h;exact wI Y G h
   ·rw[Ϗ G] at h;exact⟨undef,.inr ⟨by simpa using G,rfl⟩,h⟩
  exact gU H (Region.noSelect_spec N) (Xw af) n listed a w ab (Region.free_spec H ad) (by simpa using J) ag
   (yQ N n t _ _ w hh I ac)
 | n+1,.br ks f,listed,a,w,hh,hB,h=>by
  simp only[trB,C2,C3,I3] at hB;obtain⟨⟨ae,J⟩,I⟩:=hB;simp only[Tr.has,I3] at hh;refine⟨λd=>(by rw[J] at d;subst d;simp at ae),λi hi=> ?_⟩
  ·rw[J] at hi;have O:=(I i hi).1;have aa:=(I i hi).2;have d:=h i hi;have H:ops[i]? =ϊ (ops[i]?.getD default):=by simp[O]
   generalize ops[i]?.getD default=o at H;unfold yn;simp only[H,ϰ] at d ⊢;split
   ·rename_i G;rw[ϓ G] at d;exact wj (λa' w' _ U=>yQ N n (f i) _ a' w' (hh i hi) aa U) d
   ·rename_i G;rw[Ϗ G] at d;exact⟨yF d.1,yQ N n (f i) _ _ w (hh i hi) aa d.2⟩
end
section
variable {P:Program} {C:World->Prop} {l:List Oper} {T:Nat} {Q:Act->World->Prop} {k:Nat} {b:Bool} {o:Oper} {t:Tr} {a:Act} {w:World}
def zg (h:Q a w):zk P l.toArray T C Q .done a w:=h
def qH (G:l[k]? =ϊ o) (H:Region.wanted o (yielded l.toArray a.tmps)=ό) (d:C w) (h: ∀K:Act->Prop,(∀a,zk P l.toArray T C Q t a w->K a)->o.quiet P a C K):zk P l.toArray T C Q (.op k ύ t) a w:=by
 unfold zk;simp only[Δ,G,ϰ];rw[ϓ H];exact⟨d,h _ (λa h=>h)⟩
def jg (G:l[k]? =ϊ o) (H:Region.wanted o (yielded l.toArray a.tmps)=ύ) (d:C w) (h:zk P l.toArray T C Q t (a.put o.dst undef) w):zk P l.toArray T C Q (.op k b t) a w:=by
 cases b
 all_goals
  unfold zk;simp only[Δ,G,ϰ];rw[Ϗ (by rw[H];exact Bool.false_ne_true)];exact⟨d,h⟩
def qO (d:l[k]? =ϊ o) (G:Region.wanted o (yielded l.toArray a.tmps)=ό) (h: ∀K:Act->World->Prop,(∀a w,zk P l.toArray T C Q t a w->K a w)->jn P C o a w K):zk P l.toArray T C Q (.op k ό t) a w:=by
 unfold zk;simp only[Δ,d,ϰ];rw[ϓ G];exact qfQ (λ_ h=>yF h) (h _ λa w h=>h)
def wP {i j:Nat} {t':Tr} (H:i≠j) (hi:zk P l.toArray T C Q (.op i ό t) a w) (G:zk P l.toArray T C Q (.op j ό t') a w):zk P l.toArray T C Q (.br [i,j] λk=>if k=i then t else t') a w:=by
 unfold zk at *;intro k d;simp at d;rcases d with rfl | rfl
 ·simpa using hi
 ·have: ¬k=i:=λe=>H e.symm
  simpa [this] using G
end
def gT {id:Nat} {l:List Oper} {C:World->Prop} (T:Nat) (t:Tr) (N:P.follows .mixedOrders=ό)
  (d:(Region.noSelect l.toArray&&trB .any l.toArray T t (Array.replicate l.length ύ)&&t.has l.length)=ό)
  (h:zk P l.toArray T C (Q .normal) t a (w.drewN 1)):(Code.region id l.toArray ό).wp P Q a w:=by
 simp only[C2] at d;obtain⟨⟨G,H⟩,I⟩:=d;refine wp_region_any N (wT (T:=T) (C:=C) (Q:=Q .normal) (λ_ _ h=>h) _ _ _ _ ?_);have J:l.toArray.size=l.length:=by simp
 rw[J];exact yQ G _ t _ a _ I H h
def zB {id:Nat} {l:List Oper} (d:World) (T:Nat) (t:Tr) (H:P.follows .mixedOrders=ό)
  (G:(Region.noSelect l.toArray&&trB .any l.toArray T t (Array.replicate l.length ύ)&&t.has l.length)=ό)
  (h:zk P l.toArray T (λw'=> ∃x:qt d,w'=x.w') (Q .normal) t a (w.drewN 1)):(Code.region id l.toArray ό).wp P Q a w:=
 gT (C:=λw'=> ∃x:qt d,w'=x.w') T t H G h
def wC {id:Nat} {l:List Oper} (S:Nat->Prop) (d:World) (T:Nat) (t:Tr) (H:P.follows .mixedOrders=ό)
  (G:(Region.noSelect l.toArray&&trB .any l.toArray T t (Array.replicate l.length ύ)&&t.has l.length)=ό)
  (h:zk P l.toArray T (λw'=> ∃x:qz S d,w'=x.w') (Q .normal) t a (w.drewN 1)):(Code.region id l.toArray ό).wp P Q a w:=
 gT (C:=λw'=> ∃x:qz S d,w'=x.w') T t H G h
section
open Go.ChangeShapes Go.WideShapes Go.ChangeAt Go.RowKit
def Gb {a:Addr} (h:w.cell? a=ϊ v):a.spot=ϋ/\a.block<w.heap.size:=by
 unfold World.cell? at h;split at h
 ·rename_i c t f d;split at h
  ·cases h
  ·rename_i G;refine⟨by simpa using G, ?_⟩;rcases S3 a.block w.heap.size with h' | h'
   ·exact h'
   ·simp[Array.getElem?_eq_none h'] at d
 ·cases h
def Byt.of_wf (h: ∀n∈l,(Lit.int .u8 n).wf=ό):Byt l:=by
 intro i;rw[ϒ];by_cases hi:i<l.length
 ·rw[ϖ hi,ϰ];exact bounds_u8 (h _ (ϥ hi))
 ·rw[J3 τ];simp
end
section
open Go.ChangeShapes Go.WideShapes Go.Deep
abbrev qL (α:Type):=World->List Value->α->Prop
def QQ (R:qL α):Prop:= ∀(w w':World) (cs:List Value) (y:α),ql w w'->R w cs y->R w' cs y
def yW (k:IntKind):qL Int:=λ_ cs n=>cs=[.int k n]/\(Lit.int k n).wf=ό
def Gp:qL Unit:=λ_ cs _=>cs=[]
def zf (n:Nat) (R:qL α) (Q:qL β):qL (α×β):=λw cs y=>R w (cs.take n) y.1/\Q w (cs.drop n) y.2
def SlP (n:Nat) (R:qL α) (w:World) (v:Value) (L:List α):Prop:=
 ∃oa cap,v= .slice oa L.length cap/\(L.length:Int)<=9223372036854775807/\
  (∀i (hi:i<L.length),∃b off cs,oa=ϊ ⟨b,off,ϋ⟩/\b<w.heap.size/\cs.length=n/\(∀j,j<n->w.cell? ⟨b,off+i* n+j,ϋ⟩=cs[j]?)/\R w cs L[i])/\
  L.length<=cap/\cap<=maxLen/\(oa=ϋ->cap=0)
def RSl (n:Nat) (R:qL α):qL (List α):=λw cs L=> ∃v,cs=[v]/\SlP n R w v L
def SlP.keep {R:qL α} {L:List α} (N:QQ R) (h:SlP n R w v L) (m:ql w w'):SlP n R w' v L:=by
 obtain⟨ab,cap,G,H,I,J⟩:=h;refine⟨ab,cap,G,H,λi hi=> ?_,J⟩;obtain⟨b,off,cs,e,d,Y,O,aa⟩:=I i hi;exact⟨b,off,cs,e,ϗ d m.size,Y,λj U=>by rw[m.cells b _ d];exact O j U,N _ _ _ _ m aa⟩
section
variable {P:Program} {t e:TypeId}
def SlP.nil (n:Nat) (R:qL α) (w:World):SlP n R w (δ ϋ 0 0) []:=⟨ϋ,0,rfl,η,λi hi=>by simp at hi,η,by unfold maxLen;omega,λ_=>rfl⟩
end
def SlP.ints (h:SlP 1 (yW k) w v L):SlI k w v L/\ ∀n∈L,(Lit.int k n).wf=ό:=by
 obtain⟨ab,cap,J,N,d,O⟩:=h;refine⟨⟨ab,cap,J,N,λi hi=> ?_,O⟩,λn Y=> ?_⟩
 ·obtain⟨b,off,cs,e,G,U,H,I,_⟩:=d i hi;refine⟨b,off,e,G, ?_⟩;have:=H 0 τ;rw[I] at this
  simpa [hi] using this
 ·obtain⟨i,hi,rfl⟩:=B4.1 Y;obtain⟨b,off,cs,e,G,U,H,I,aa⟩:=d i hi;exact aa
end
def jw (R:qL α) (D:Nat->Prop) (w:World) (cs:List Value) (y:α):Prop:= ∀w',jt D w w'->R w' cs y
section
variable {α:Type} {R:qL α} {D D':Nat->Prop} {w w':World} {cs:List Value} {y:α}
def jw.read (h:jw R D w cs y):R w cs y:=h w (jt.refl D w)
def jw.step (h:jw R D w cs y) (a:jt D w w'):jw R D w' cs y:=λ_ b=>h _ (a.trans b)
def jw.on (h:jw R D w cs y) (a:ql w w'):jw R D w' cs y:=h.step (jt.of_more a)
def jw.other (h:jw R D w cs y) (k: ∀b,D' b->D b∨w.heap.size<=b):jw R D' w cs y:=λw' a=>
 h w' ⟨a.os,a.tape,a.output,a.size,λb d G=>a.block b d (λx=>by
  rcases k b x with e | e
  ·exact G e
  ·omega)⟩
def jw.old (d:QQ R) (h:R w cs y) (k: ∀b,D b->w.heap.size<=b):jw R D w cs y:=λw' a=>
 d w w' cs y ⟨a.os,a.tape,a.output,a.size,λb G=>a.block b G (λx=>by have:=k b x;omega)⟩ h
end
def SlI.off (h:SlI k w v l) (J: ∀b,v.ownBlock=ϊ b-> ¬D b) (a:jt D w w'):SlI k w' v l:=by
 obtain⟨O,cap,rfl,G,H,I⟩:=h;refine⟨O,cap,rfl,G,λi hi=> ?_,I⟩;obtain⟨b,off,rfl,d,N⟩:=H i hi;exact⟨b,off,rfl,ϗ d a.size,by rw[a.cells b _ d (J b rfl)];exact N⟩
def SlP.of_ints (h:SlI k w v l) (O: ∀n∈l,(Lit.int k n).wf=ό):SlP 1 (yW k) w v l:=by
 obtain⟨U,cap,G,H,I,J⟩:=h;refine⟨U,cap,G,H,λi hi=> ?_,J⟩;obtain⟨b,off,e,N,d⟩:=I i hi;refine⟨b,off,[.int k l[i]],e,N,rfl,λj Y=> ?_,rfl,O _ (ϥ hi)⟩;obtain rfl:j=0:=by omega
 simp at d ⊢;rw[d];simp[hi]
structure je {α:Type} (n:Nat) (R:qL α) (D:Nat->Prop) (w:World) (base e:Nat) (v:Value) (L:List α):Prop where
 row: ∃xs,w.ownsRow base e n v L.length xs/\ ∀i (hi:i<L.length),jw R (λk=>D k∨v.ownBlock=ϊ k) w ((xs.drop (i* n)).take n) L[i]
 apart: ∀b,v.ownBlock=ϊ b-> ¬D b
section
variable {α:Type} {n:Nat} {R:qL α} {D:Nat->Prop} {w w':World} {base e:Nat} {v:Value} {L:List α}
def je.nil (n:Nat) (R:qL α) (D:Nat->Prop) (w:World) (base e:Nat):je n R D w base e (δ ϋ 0 0) []:=
 ⟨⟨[],World.ownsRow_nil w base e n,λi hi=>by simp at hi⟩,λb h=>by cases h⟩
def je.step (h:je n R D w base e v L) (a:jt D w w'):je n R D w' base e v L:=by
 obtain⟨⟨xs,⟨G,H⟩,I⟩,d⟩:=h;refine⟨⟨xs,⟨G, ?_⟩,λi hi=>(I i hi).step (a.mono λk J=>ϑ J)⟩,d⟩;rcases H with h | ⟨g,cap,cur,e1,hb,hg,rest⟩
 ·exact ϑ h
 ·exact ϕ ⟨g,cap,cur,e1,hb,a.blk hg (d g (by rw[e1];rfl)),rest⟩
def je.on (h:je n R D w base e v L) (a:ql w w'):je n R D w' base e v L:=h.step (jt.of_more a)
def je.shape (h:je n R D w base e v L): ∃oa m cap,v= δ oa m cap/\m=L.length/\L.length<=cap:=by
 obtain⟨⟨xs,d,_⟩,_⟩:=h;rcases d.2 with ⟨rfl,e⟩ | ⟨b,cap,cur,rfl,_,_,G,_⟩
 ·exact⟨ϋ,0,0,rfl,τ,τ⟩
 ·exact⟨_,_,cap,rfl,rfl,G⟩
def je.lt (h:je n R D w base e v L) (d:v.ownBlock=ϊ b):b<w.heap.size:=by
 obtain⟨⟨xs,H,_⟩,_⟩:=h;rcases H.2 with ⟨rfl,_⟩ | ⟨G,cap,cur,rfl,_,I,_⟩
 ·cases d
 ·obtain rfl:G=b:=by injection d
  exact lt_of_block I
def je.ge (h:je n R D w base e v L) (d:v.ownBlock=ϊ b):base<=b:=by
 obtain⟨⟨xs,H,_⟩,_⟩:=h;rcases H.2 with ⟨rfl,_⟩ | ⟨G,cap,cur,rfl,I,_⟩
 ·cases d
 ·obtain rfl:G=b:=by injection d
  exact I
def je.sl (h:je n R D w base e v L) (ad:0<n):SlP n R w v L:=by
 obtain⟨⟨xs,⟨I,J⟩,N⟩,_⟩:=h;rcases J with ⟨rfl,H⟩ | ⟨g,cap,cur,rfl,ab,G,Y,d,ac,aa⟩
 ·obtain rfl:L=[]:=Ϡ H;exact SlP.nil n R w
 ·refine⟨_,cap,rfl,by unfold maxLen at d;omega,λi hi=>⟨g,0,_,rfl,lt_of_block G, ?_,λj U=> ?_,(N i hi).read⟩,Y,d,λh=>by cases h⟩
  ·have O:i* n+n<=L.length* n:=by
    have:(i+1)* n<=L.length* n:=A0 n hi;rw[I5,O3] at this;exact this
   rw[Ϥ,Ϭ,I];omega
  ·have O:i* n+n<=L.length* n:=by
    have:(i+1)* n<=L.length* n:=A0 n hi;rw[I5,O3] at this;exact this
   rw[G5,cell_of_row w g _ cur e (0,0) G,C0,ϓ U,G1,<-aa,C0,ϓ τ];simp
end
def uI (w:World) (base:Nat) (t aa e:TypeId) (i:TypeInfo) (z:Value) (n bytes:Nat) (aw:P.underlying t=ϊ (.slice e)) (hi:P.info? e=ϊ i) (ay:i.zero=ϊ z)
  (av:i.size=n) (ah:i.bytes=bytes) (az:z.cells.size=n) (ao:0<n)
  {R:qL α} (v:Value) (L:List α) (ar:je n R D w base e v L)
  (B:Nat) (cs:List Value) (y:α) (am:cs.length=n) (ap: ∀j u,cs[j]? =ϊ u->w.cell? ⟨B,j,ϋ⟩=ϊ u) (ad: ∀u∈cs,u.oneCell'=ό)
  (ax:jw R (λk=>D k∨v.ownBlock=ϊ k) w cs y) (ae: ∀b,D b->b<w.heap.size)
  (aA:1<=bytes) (ai:(L.length+1)* bytes<=140737488355328) (ag:base<=w.heap.size):
  ∃v' w',(Builtin.append_ #[t,t] aa #[v,δ (ϊ ⟨B,0,ϋ⟩) 1 1]).run P w= .ok v' w'/\je n R D w' base e v' (L++[y])/\w.grownBy w' v.ownBlock/\(v'.ownBlock=v.ownBlock∨v'.ownBlock=ϊ w.heap.size):=by
 obtain⟨⟨xs,N,ak⟩,af⟩:=ar;have an:L.length+1<=maxLen:=by
  have:=K2 (L.length+1) (show 0<bytes by omega);unfold maxLen;omega
 obtain⟨v',w',au,aq,G,_,d⟩:=run_append_own_at (P:=P) w base t aa e i z n bytes aw hi ay av ah az ao v L.length xs N ⟨B,0,ϋ⟩ 1 1 cs (by rw[am,O3]) (by
  intro j u al;have ab:(⟨B,0,ϋ⟩:Addr).add j=⟨B,j,ϋ⟩:=by
   unfold Addr.add;split
   ·rename_i ac;subst ac;rfl
   ·simp
  rw[ab];exact ap j u al) ad an ai ag
 have aj: ∀k (J:k<(L++[y]).length),jw R (λk=>D k∨v.ownBlock=ϊ k) w (((xs++cs).drop (k* n)).take n) (L++[y])[k]:=by
  intro k J;simp at J;by_cases e:k<L.length
  ·have aB:k* n+n<=L.length* n:=by
    have:(k+1)* n<=L.length* n:=A0 n e;rw[I5,O3] at this;exact this
   have aC:=N.1;have O:((xs++cs).drop (k* n)).take n=(xs.drop (k* n)).take n:=by
    rw[I6 τ,I7 (by rw[Ϭ];omega)]
   rw[O,R5 e];exact ak k e
  ·obtain rfl:k=L.length:=by omega
   have O:((xs++cs).drop (L.length* n)).take n=cs:=by
    rw[I6 (by rw[N.1];exact ϔ _),K7 (by rw[N.1];exact ϔ _),I0];exact K9 τ
   rw[O]
   simpa using ax
 refine⟨v',w',au,⟨⟨xs++cs,by simpa using aq,λk J w'' a'=> ?_⟩, ?_⟩,G,d⟩
 ·refine aj k J w'' ⟨a'.os.trans G.os,a'.tape.trans G.tape,a'.output.trans G.output,ϙ G.size a'.size,λb H U=> ?_⟩;rw[a'.block b (ϗ H G.size) ?_]
  ·exact G.block b H (λe=>U (ϕ e.symm))
  ·rintro(I | I)
   ·exact U (ϑ I)
   ·rcases d with d | d
    ·exact U (ϕ (by rw[<-d];exact I))
    ·rw[d] at I;have:w.heap.size=b:=by injection I
     omega
 ·intro b H Y;rcases d with d | d
  ·exact af b (by rw[<-d];exact H) Y
  ·rw[d] at H;have:w.heap.size=b:=by injection H
   have:=ae b Y;omega
def jN (w:World) {o:Oper} (ab:o.guard=ϋ) (s x:Operand) (t:TypeId)
  (af:o.op= .call {callee:= .builtin .append,args:= #[s,x],argTypes:= #[t,t]})
  (base:Nat) (e:TypeId) (i:TypeInfo) (z:Value) (n bytes:Nat) (ak:P.underlying t=ϊ (.slice e)) (hi:P.info? e=ϊ i) (an:i.zero=ϊ z)
  (aj:i.size=n) (U:i.bytes=bytes) (ao:z.cells.size=n) (ad:0<n)
  {R:qL α} (v:Value) (L:List α) (ai:a.eval s=v) (ag:je n R D w base e v L)
  (B:Nat) (cs:List Value) (y:α) (al:a.eval x= δ (ϊ ⟨B,0,ϋ⟩) 1 1) (ac:cs.length=n) (ae: ∀j u,cs[j]? =ϊ u->w.cell? ⟨B,j,ϋ⟩=ϊ u) (d: ∀u∈cs,u.oneCell'=ό)
  (am:jw R (λk=>D k∨v.ownBlock=ϊ k) w cs y) (J: ∀b,D b->b<w.heap.size)
  (Y:1<=bytes) (aa:(L.length+1)* bytes<=140737488355328) (O:base<=w.heap.size)
  (h: ∀v' w',je n R D w' base e v' (L++[y])->w.grownBy w' v.ownBlock->(v'.ownBlock=v.ownBlock∨v'.ownBlock=ϊ w.heap.size)->wpList P ops Q rest (a.put o.dst v') w'):wpList P ops Q (o::rest) a w:=by
 refine wpList_plain ab λK N=> ?_
 obtain⟨v',w',ah,G,H,I⟩:=uI (P:=P) w base t o.type e i z n bytes ak hi an aj U ao ad v L ag B cs y ac ae d am J Y aa O;unfold Oper.wp execOp;simp only[af,resolve,invoke,builtin,Sem.run_bind,Sem.run_pure,Result.andThen_ok,K0,Ϛ,C6,ai,al,ah];exact N _ _ (h v' w' G H I)
def zK {o:Oper} {C:World->Prop} (s x:Operand) (t:TypeId)
  (ad:o.op= .call {callee:= .builtin .append,args:= #[s,x],argTypes:= #[t,t]})
  (base:Nat) (e:TypeId) (i:TypeInfo) (z:Value) (n bytes:Nat) (ai:P.underlying t=ϊ (.slice e)) (hi:P.info? e=ϊ i) (al:i.zero=ϊ z)
  (ah:i.size=n) (O:i.bytes=bytes) (am:z.cells.size=n) (ab:0<n)
  {R:qL α} (v:Value) (L:List α) (ag:a.eval s=v) (ae:je n R D w base e v L)
  (B:Nat) (cs:List Value) (y:α) (aj:a.eval x= δ (ϊ ⟨B,0,ϋ⟩) 1 1) (aa:cs.length=n) (ac: ∀j u,cs[j]? =ϊ u->w.cell? ⟨B,j,ϋ⟩=ϊ u) (d: ∀u∈cs,u.oneCell'=ό)
  (ak:jw R (λk=>D k∨v.ownBlock=ϊ k) w cs y) (J: ∀b,D b->b<w.heap.size)
  (U:1<=bytes) (Y:(L.length+1)* bytes<=140737488355328) (N:base<=w.heap.size)
  (h: ∀v' w',je n R D w' base e v' (L++[y])->w.grownBy w' v.ownBlock->(v'.ownBlock=v.ownBlock∨v'.ownBlock=ϊ w.heap.size)->C w'/\K (a.put o.dst v') w'):jn P C o a w K:=by
 obtain⟨v',w',af,G,H,I⟩:=uI (P:=P) w base t o.type e i z n bytes ai hi al ah O am ab v L ae B cs y aa ac d ak J U Y N;unfold jn execOp;simp only[ad,resolve,invoke,builtin,Sem.run_bind,Sem.run_pure,Result.andThen_ok,K0,Ϛ,C6,ag,aj,af];exact h v' w' G H I
section
open Go.RowKit Go.ChangeShapes
structure PkS (w:World) (vs ve vp:Value) (p:Pk):Prop where
 s:SlI .u32 w vs p.ss
 e:SlI .u8 w ve p.ex
 l:SlI .u8 w vp p.pl
def PkS.keep {G d vp:Value} {p:Pk} (h:PkS w G d vp p) (m:ql w w'):PkS w' G d vp p:=⟨h.s.keep m,h.e.keep m,h.l.keep m⟩
structure uj (p:Pk):Prop where
 s:p.ss.length<=1000000
 e:p.ex.length<=1000000
 l:p.pl.length<=1000000
def Do (p:Pk) (H G vp:Value) (w:World) (h:PkS w H G vp p) (I:uj p):
  Calls prog 138 #[(Γq p H G vp)] w λe w'=>e= .returned (ι (ww p))/\ql w w':=by
 obtain⟨⟨os,N,rfl,_⟩,⟨ab,ke,rfl,_⟩,⟨ac,J,rfl,_⟩⟩:=h;obtain⟨O,U,Y⟩:=I;have d:ww p=12+4* (p.ss.length:Int)+(p.pl.length:Int)+if p.has then 4+(p.ex.length:Int) else 0:=rfl
 rw[d];clear d;obtain⟨aa,ae,sq,st,sc,ss,has,ad,ex,pl⟩:=p;simp only at *;generalize ss.length=a at *;generalize ex.length=b at *;generalize pl.length=c at *;cases has with
 | true=>
  go_enter func138,ntmps138
  go_wp2;go_ret;exact⟨xV (by simp only[C1];try omega),ql.alloc _ _⟩
 | false=>
  go_enter func138,ntmps138
  go_wp2;go_ret;exact⟨xV (by simp only[Ξ,D4];try omega),ql.alloc _ _⟩
def gc (p:Pk) (ag af vp:Value) (w:World) (h:PkS w ag af vp p) (aj:uj p):
  Calls prog 110 #[(Γq p ag af vp)] w λe w'=>e= .returned (μ (jJ p))/\ql w w':=by
 have Y:=κ h;have I:=yq p;have aa:=κ (λw' al=>Do p ag af vp w' al aj);obtain⟨⟨os,ar,rfl,_⟩,⟨ax,ke,rfl,an⟩,⟨ay,aq,rfl,_⟩⟩:=h;clear an;obtain⟨au,d,av⟩:=aj;obtain⟨ak,ae⟩:=ν (ww p);rw[ae] at I;have ab:=κ ae;clear ae;obtain⟨R,ah⟩:=ν (jJ p);rw[ah] at I ⊢;clear ah;obtain⟨aw,ao,sq,st,sc,ss,ac,U,N,az⟩:=p;simp only at *;have ai:N=[]↔N.length=0:=List.length_eq_zero_iff.symm;rw[ai] at I;clear ai;by_cases h1:ao<=127
 ·by_cases h2:(ss.length:Int)<=15
  ·by_cases H:ac=ύ/\ ¬(U=0)
   ·obtain⟨rfl,H⟩:=H
    have J:Hid (R=ύ):=κ (by
     cases R with
     | false=>rfl
     | true=>exact ϧ ((I.1 rfl).2.2.1 rfl).1 H)
    have ad:(U != 0)=ό:=by simpa using H
    clear I H
    go_enter func110,ntmps110
    go_wp2_with (go_at_call 138;(go_call aa.o _ (Y.o.keep X6) as e w2 ⟨rfl,d⟩;rw[ab.o];have G:=κ d;clear d))
    go_ret;exact⟨by rw[J.o];first | rfl | (simp;omega),by first | exact ql.alloc _ _ | exact X6.trans G.o⟩
   ·by_cases O:ac=ύ/\ ¬(N.length=0)
    ·obtain⟨rfl,O⟩:=O
     have J:Hid (R=ύ):=κ (by
      cases R with
      | false=>rfl
      | true=>exact ϧ ((I.1 rfl).2.2.1 rfl).2 O)
     obtain rfl:U=0:=by
      by_cases e:U=0
      ·exact e
      ·exact ϧ ⟨rfl,e⟩ H
     have ad:(0:Int)<(N.length:Int):=by omega
     clear I H O
     go_enter func110,ntmps110
     go_wp2_with (go_at_call 138;(go_call aa.o _ (Y.o.keep X6) as e w2 ⟨rfl,d⟩;rw[ab.o];have G:=κ d;clear d))
     go_ret;exact⟨by rw[J.o];first | rfl | (simp;omega),by first | exact ql.alloc _ _ | exact X6.trans G.o⟩
    ·by_cases h5:(N.length:Int)%4=0
     ·have am:((N.length:Int)).tmod 4=0:=by rw[D6 τ];exact h5
      by_cases h6:ak<=200
      ·have J:Hid (R=ό):=κ (I.2 ⟨h1,h2,λe=>⟨by
        by_cases z:U=0
        ·exact z
        ·exact ϧ ⟨e,z⟩ H,by
        by_cases z:N.length=0
        ·exact z
        ·exact ϧ ⟨e,z⟩ O⟩,h5,h6⟩)
       clear I h5;cases ac with
       | true=>
        clear H O
        go_enter func110,ntmps110
        go_wp2_with (go_at_call 138;(go_call aa.o _ (Y.o.keep X6) as e w2 ⟨rfl,d⟩;rw[ab.o];have G:=κ d;clear d))
        go_ret;exact⟨by rw[J.o];first | rfl | (simp;omega),by first | exact ql.alloc _ _ | exact X6.trans G.o⟩
       | false=>
        obtain rfl:U=0:=by
         by_cases e:U=0
         ·exact e
         ·exact ϧ ⟨rfl,e⟩ H
        have ad: ¬(0:Int)<(N.length:Int):=by
         by_cases e:N.length=0
         ·omega
         ·exact ϧ ⟨rfl,e⟩ O
        clear H O
        go_enter func110,ntmps110
        go_wp2_with (go_at_call 138;(go_call aa.o _ (Y.o.keep X6) as e w2 ⟨rfl,d⟩;rw[ab.o];have G:=κ d;clear d))
        go_ret;exact⟨by rw[J.o];first | rfl | (simp;omega),by first | exact ql.alloc _ _ | exact X6.trans G.o⟩
      ·have J:Hid (R=ύ):=κ (by
        cases R with
        | false=>rfl
        | true=>exact ϧ (I.1 rfl).2.2.2.2 h6)
       clear I h5;cases ac with
       | true=>
        clear H O
        go_enter func110,ntmps110
        go_wp2_with (go_at_call 138;(go_call aa.o _ (Y.o.keep X6) as e w2 ⟨rfl,d⟩;rw[ab.o];have G:=κ d;clear d))
        go_ret;exact⟨by rw[J.o];first | rfl | (simp;omega),by first | exact ql.alloc _ _ | exact X6.trans G.o⟩
       | false=>
        obtain rfl:U=0:=by
         by_cases e:U=0
         ·exact e
         ·exact ϧ ⟨rfl,e⟩ H
        have ad: ¬(0:Int)<(N.length:Int):=by
         by_cases e:N.length=0
         ·omega
         ·exact ϧ ⟨rfl,e⟩ O
        clear H O
        go_enter func110,ntmps110
        go_wp2_with (go_at_call 138;(go_call aa.o _ (Y.o.keep X6) as e w2 ⟨rfl,d⟩;rw[ab.o];have G:=κ d;clear d))
        go_ret;exact⟨by rw[J.o];first | rfl | (simp;omega),by first | exact ql.alloc _ _ | exact X6.trans G.o⟩
     ·have am:(((N.length:Int)).tmod 4==0)=ύ:=by
       rw[beq_eq_false_iff_ne,D6 τ];exact h5
      have ap:((N.length:Int)%4==0)=ύ:=by rw[beq_eq_false_iff_ne];exact h5
      have J:Hid (R=ύ):=κ (by
       cases R with
       | false=>rfl
       | true=>exact ϧ (I.1 rfl).2.2.2.1 h5)
      clear I h5;cases ac with
      | true=>
       clear H O
       go_enter func110,ntmps110
       go_wp2_with (go_at_call 138;(go_call aa.o _ (Y.o.keep X6) as e w2 ⟨rfl,d⟩;rw[ab.o];have G:=κ d;clear d))
       go_ret;exact⟨by rw[J.o];first | rfl | (simp;omega),by first | exact ql.alloc _ _ | exact X6.trans G.o⟩
      | false=>
       obtain rfl:U=0:=by
        by_cases e:U=0
        ·exact e
        ·exact ϧ ⟨rfl,e⟩ H
       have ad: ¬(0:Int)<(N.length:Int):=by
        by_cases e:N.length=0
        ·omega
        ·exact ϧ ⟨rfl,e⟩ O
       clear H O
       go_enter func110,ntmps110
       go_wp2_with (go_at_call 138;(go_call aa.o _ (Y.o.keep X6) as e w2 ⟨rfl,d⟩;rw[ab.o];have G:=κ d;clear d))
       go_ret;exact⟨by rw[J.o];first | rfl | (simp;omega),by first | exact ql.alloc _ _ | exact X6.trans G.o⟩
  ·have J:Hid (R=ύ):=κ (by
    cases R with
    | false=>rfl
    | true=>exact ϧ (I.1 rfl).2.1 h2)
   have ad:(15:Int)<(ss.length:Int):=by omega
   clear I
   go_enter func110,ntmps110
   go_wp2_with (go_at_call 138;(go_call aa.o _ (Y.o.keep X6) as e w2 ⟨rfl,d⟩;rw[ab.o];have G:=κ d;clear d))
   go_ret;exact⟨by rw[J.o];first | rfl | (simp;omega),by first | exact ql.alloc _ _ | exact X6.trans G.o⟩
 ·have J:Hid (R=ύ):=κ (by
   cases R with
   | false=>rfl
   | true=>exact ϧ (I.1 rfl).1 h1)
  clear I
  go_enter func110,ntmps110
  go_wp2_with (go_at_call 138;(go_call aa.o _ (Y.o.keep X6) as e w2 ⟨rfl,d⟩;rw[ab.o];have G:=κ d;clear d))
  go_ret;exact⟨by rw[J.o];first | rfl | (simp;omega),by first | exact ql.alloc _ _ | exact X6.trans G.o⟩
def Zd (b:List Int):Bool:=decide (2<=b.length)&&decide (192<=b.getD 1 0)&&decide (b.getD 1 0<=223)
def V3 (v:Value) (b:List Int) (w:World) (I:SlI .u8 w v b):
  Calls prog 185 #[v] w λe w'=>e= .returned (μ (Zd b))/\w=w':=by
 obtain⟨aa,N,rfl,Y,d,_⟩:=I;have G:Zd b=(decide (2<=b.length)&&decide (192<=b.getD 1 0)&&decide (b.getD 1 0<=223)):=rfl;rw[G];clear G;by_cases h2:2<=b.length
 ·obtain⟨J,off,rfl,O,U⟩:=d 1 τ;have H:(2:Int)<=(b.length:Int):=by omega
  rw[ϻ h2];clear d;generalize b.getD 1 0=x at *;by_cases h3:192<=x
  ·by_cases h4:x<=223
   ·go_enter func185,ntmps185
    go_wp2;go_ret;simp[h3,h4]
   ·go_enter func185,ntmps185
    go_wp2;go_ret;simp[h3,h4]
  ·go_enter func185,ntmps185
   go_wp2;go_ret;simp[h3]
   try omega
 ·have H: ¬(2:Int)<=(b.length:Int):=by omega
  rw[ϯ h2];clear d
  go_enter func185,ntmps185
  go_wp2;go_ret;simp
end
def WrX (w0 w:World) (W B:Nat) (o:Obj) (l:List Int):Prop:= ∃v,WrK w0 w W v l B o
def WrX.start {w2:World} {o:Obj} (m:ql (w.alloc o) w2):WrK w (w2.alloc (.cells #[δ ϋ 0 0] 242)) w2.heap.size (δ ϋ 0 0) [] w.heap.size o:=by
 have d:w.heap.size<w2.heap.size:=qn (qq m (qj w o));exact⟨wR w2,((ql.alloc w o).trans m).al _,S5 d,qs (qq m (qj w o)) _,τ,by simp[Value.ownBlock]⟩
def WrX.cell {d:World} {cs:Array Value} {t:TypeId} (h:WrX d w W B (.cells cs t (0,0)) l) (i:Nat) (hi:cs[i]? =ϊ v):w.cell? ⟨B,i,ϋ⟩=ϊ v:=by
 obtain⟨v',k⟩:=h;exact qa k.keep i hi
def WrX.more {d:World} {o:Obj} (h:WrX d w W B o l):ql d w:=by
 obtain⟨v',k⟩:=h;exact k.more
def ju (n s:Int):(qy n s).length<=8:=by
 unfold qy;split
 ·rw[zP];omega
 ·simp
def uj.of_right {p:Pk} (h:jJ p=ό):uj p/\p.ss.length<=15/\p.ex.length<=200/\p.pl.length<=200:=by
 obtain⟨J,N,G,O,d⟩:=(yq p).1 h;unfold ww at d;have H:p.ex.length<=200:=by
  cases hh:p.has with
  | false=>rw[(G hh).2];simp
  | true=>rw[hh] at d;simp only[C1] at d;omega
 have I:p.pl.length<=200:=by split at d<;>omega
 exact⟨⟨τ,τ,τ⟩,τ,H,I⟩
def gi (p:Pk) (aB aA vp:Value) (w:World) (h:PkS w aB aA vp p) (ao:uf p) (ay:jJ p=ό):
  Calls prog 69 #[(Γq p aB aA vp)] w λe w'=>(∃v,e= .returned (.tuple #[v,ι 0])/\w'.ownsRow w.heap.size 5 1 v (pkB p).length ((pkB p).map (Value.int .u8)))/\ql w w':=by
 obtain⟨bV,l1,l2,cz⟩:=uj.of_right ay;have ax:=κ h;have bD:=κ (gc p aB aA vp (w.alloc (.cells (Γq p aB aA vp) 133)) (h.keep X6) bV);have bT:=(yq p).1 ay;have bC:=κ ay;obtain⟨⟨os,au,rfl,_⟩,⟨av,ke,rfl,bU⟩,⟨aw,ar,rfl,_⟩⟩:=h;clear bU;have t1:=ao.ty;have t2:=ao.sq;have t3:=ao.st;have t4:=ao.sc;have ca:=ao.pr;have bE:=κ ao.ss;obtain⟨co,cp,bP,cq,_⟩:=bT;obtain⟨ab,aJ,o2,bi⟩: ∃ab,(p.has=ύ->ab=128+(p.ss.length:Int))/\(p.has=ό->ab=128+(p.ss.length:Int)+16)/\ab=CT p:=⟨_,λe=>by simp[CT,e],λe=>by simp[CT,e],rfl⟩;obtain⟨ac,aK,aL,bj⟩: ∃ac,(p.mr=ύ->ac=p.ty)/\(p.mr=ό->ac=p.ty+128)/\ac=CN p:=⟨_,λe=>by simp[CN,e],λe=>by simp[CN,e],rfl⟩;have bQ:0<=ab/\ab<=255:=by
  cases hh:p.has with
  | false=>rw[aJ hh];omega
  | true=>rw[o2 hh];omega
 have bR:0<=ac/\ac<=255:=by
  cases hh:p.mr with
  | false=>rw[aK hh];omega
  | true=>rw[aL hh];omega
 have aH:pkB p=qy ab 1++qy ac 1++qy p.sq 2++qy p.st 4++qy p.sc 4++ssB p.ss++(if p.has then qy p.pr 2++qy ((p.ex.length:Int)/4) 2++p.ex else [])++p.pl:=by
  rw[bi,bj];rfl
 obtain⟨ap,aE,aF,aO⟩: ∃ap,(p.has=ύ->ap=[])/\(p.has=ό->ap=qy p.pr 2++qy ((p.ex.length:Int)/4) 2++p.ex)/\ap=if p.has then qy p.pr 2++qy ((p.ex.length:Int)/4) 2++p.ex else []:=⟨if p.has then qy p.pr 2++qy ((p.ex.length:Int)/4) 2++p.ex else [],λe=>by simp[e],λe=>by simp[e],rfl⟩
 rw[<-aO] at aH;have cy:ap.length<=300:=by
  have:=ju p.pr 2;have:=ju ((p.ex.length:Int)/4) 2;cases hh:p.has with
  | false=>rw[aE hh];simp
  | true=>rw[aF hh];simp only[ώ];omega
 rw[aH];clear ay ao aH bi bj aO;obtain⟨mr,ty,sq,st,sc,ss,has,pr,ex,pl⟩:=p;simp only at *;have bK:=κ aJ;have bL:=κ o2;have bM:=κ aK;have bN:=κ aL;have bv:=κ aE;have bw:=κ aF;have w1:IntKind.i64.wrap (128+(ss.length:Int))=128+(ss.length:Int):=IntWalk.i64_in _ τ;have bX:IntKind.u8.wrap (128+(ss.length:Int))=128+(ss.length:Int):=by
  show (128+(ss.length:Int))%256=_;omega
 obtain⟨s0,s1⟩:=t2;obtain⟨cD,cE⟩:=bQ;obtain⟨cB,cC⟩:=bR;obtain⟨t0,t1⟩:=t1;obtain⟨a0,ci⟩:=t3;obtain⟨cj,ck⟩:=t4;obtain⟨cm,c1⟩:=ca;clear aJ o2 aK aL aE aF bP
 go_enter func69,ntmps69
 go_upto_region 3 with (go_at_call 110;(go_call bD.o as e wr ⟨rfl,aI⟩;rw[bC.o];have bI:=κ aI;have an:=κ (qq aI (qj w (.cells #[μ mr,υ ty,φ sq,ω st,ω sc,δ os ss.length au,has,φ pr,δ av ex.length ke,δ aw pl.length ar] 133)));clear aI;have d:=λn=>β0 (qb an.o n);have G:=λn=>β1 (qb an.o n);have H:=λn=>β2 (qb an.o n);have I:=λn=>β3 (qb an.o n);have J:=λn=>β4 (qb an.o n);have N:=λn=>β5 (qb an.o n);have O:=λn=>β6 (qb an.o n);have U:=λn=>β7 (qb an.o n);have Y:=λn=>β8 (qb an.o n);have aa:=λn=>β9 (qb an.o n)))
 go_quiet (fail)
 clear w1 bX
 go_upto_if 21 with fail
 go_cut [4] from 20 (λbY aq=>bY= υ ab/\aq=wr.drewN nq)
 case first=>
  cases has with
  | false=>
   go_wp2;go_meet;exact⟨by rw[bK.o η],rfl⟩
  | true=>
   go_wp2;go_meet;exact⟨by rw[bL.o η],rfl⟩
 case rest=>
 obtain⟨rfl,rfl⟩:=hcut
 go_upto_if 26 with fail
 go_cut [5] from 24 (λbZ aq=>bZ= υ ac/\aq=wr.drewN nq)
 case first=>
  cases mr with
  | false=>
   go_wp2;go_meet;exact⟨by rw[bM.o η],rfl⟩
  | true=>
   go_wp2;go_meet;exact⟨by rw[bN.o η],rfl⟩
 case rest=>
 obtain⟨rfl,rfl⟩:=hcut;have bJ:Hid (ql (w.alloc (.cells #[μ mr,υ ty,φ sq,ω st,ω sc,δ os ss.length au,has,φ pr,δ av ex.length ke,δ aw pl.length ar] 133)) (wr.drewN nq)):=κ (bI.o.dr nq);have ae:=κ (WrX.start bJ.o);generalize wr.drewN nq=W3 at *;clear d G H I J N O U Y aa;have d:=β0 ae.o.keep;have G:=β1 ae.o.keep;have H:=β2 ae.o.keep;have I:=β3 ae.o.keep;have J:=β4 ae.o.keep;have N:=β5 ae.o.keep;have O:=β6 ae.o.keep;have U:=β7 ae.o.keep;have Y:=β8 ae.o.keep;have aa:=β9 ae.o.keep
 go_wp2_with first | (go_at_call 111;((with_reducible refine(wk ae.o.wr ab τ ζ).mono ?_);rintro e w10 ⟨rfl,bl⟩;obtain⟨cH,aV⟩:=ae.o.wrote bl;have af:=κ aV;clear aV bl d G H I J N O U Y aa;have d:=β0 af.o.keep;have G:=β1 af.o.keep;have H:=β2 af.o.keep;have I:=β3 af.o.keep;have J:=β4 af.o.keep;have N:=β5 af.o.keep;have O:=β6 af.o.keep;have U:=β7 af.o.keep;have Y:=β8 af.o.keep;have aa:=β9 af.o.keep)) | (go_at_call 111;((with_reducible refine(wk af.o.wr ac τ (by have:=ju ab 1;have:=ju ac 1;have:=ju sq 2;have:=ju st 4;have:=ju sc 4;simp only[ώ,Ϣ];omega)).mono ?_);rintro e cf ⟨rfl,bm⟩;obtain⟨cb,bb⟩:=af.o.wrote bm;have ai:=κ bb;clear bb bm d G H I J N O U Y aa;have d:=β0 ai.o.keep;have G:=β1 ai.o.keep;have H:=β2 ai.o.keep;have I:=β3 ai.o.keep;have J:=β4 ai.o.keep;have N:=β5 ai.o.keep;have O:=β6 ai.o.keep;have U:=β7 ai.o.keep;have Y:=β8 ai.o.keep;have aa:=β9 ai.o.keep)) | (go_at_call 112;(go_call kU ai.o.wr sq τ (by have:=ju ab 1;have:=ju ac 1;have:=ju sq 2;have:=ju st 4;have:=ju sc 4;simp only[ώ,Ϣ];omega) as e cg ⟨rfl,br⟩;obtain⟨cc,bc⟩:=ai.o.wrote br;have aj:=κ bc;clear bc br d G H I J N O U Y aa;have d:=β0 aj.o.keep;have G:=β1 aj.o.keep;have H:=β2 aj.o.keep;have I:=β3 aj.o.keep;have J:=β4 aj.o.keep;have N:=β5 aj.o.keep;have O:=β6 aj.o.keep;have U:=β7 aj.o.keep;have Y:=β8 aj.o.keep;have aa:=β9 aj.o.keep)) | (go_at_call 113;((with_reducible refine(uw aj.o.wr st τ (by have:=ju ab 1;have:=ju ac 1;have:=ju sq 2;have:=ju st 4;have:=ju sc 4;simp only[ώ,Ϣ];omega)).mono ?_);rintro e w13 ⟨rfl,bs⟩;obtain⟨bk,bd⟩:=aj.o.wrote bs;have ak:=κ bd;clear bd bs d G H I J N O U Y aa;have d:=β0 ak.o.keep;have G:=β1 ak.o.keep;have H:=β2 ak.o.keep;have I:=β3 ak.o.keep;have J:=β4 ak.o.keep;have N:=β5 ak.o.keep;have O:=β6 ak.o.keep;have U:=β7 ak.o.keep;have Y:=β8 ak.o.keep;have aa:=β9 ak.o.keep)) | (go_at_call 113;((with_reducible refine(uw ak.o.wr sc τ (by have:=ju ab 1;have:=ju ac 1;have:=ju sq 2;have:=ju st 4;have:=ju sc 4;simp only[ώ,Ϣ];omega)).mono ?_);rintro e w14 ⟨rfl,bt⟩;obtain⟨cd,be⟩:=ak.o.wrote bt;have am:=κ be;clear be bt d G H I J N O U Y aa;have d:=β0 am.o.keep;have G:=β1 am.o.keep;have H:=β2 am.o.keep;have I:=β3 am.o.keep;have J:=β4 am.o.keep;have N:=β5 am.o.keep;have O:=β6 am.o.keep;have U:=β7 am.o.keep;have Y:=β8 am.o.keep;have aa:=β9 am.o.keep))
 have ch:=κ (ax.o.s.keep am.o.more);generalize aG:([]++qy ab 1++qy ac 1++qy sq 2++qy st 4++qy sc 4)=PX at *;have cw:PX.length<=100:=by rw[<-aG];exact(by have:=ju ab 1;have:=ju ac 1;have:=ju sq 2;have:=ju st 4;have:=ju sc 4;simp only[ώ,Ϣ];omega)
 have bA:=κ aG;clear aG;clear ae af ai aj ak
 go_loopw [48] (λi aq=> ∃k:Nat,k<=ss.length/\i= ι k/\WrX w aq W3.heap.size w.heap.size (.cells #[μ mr,υ ty,φ sq,ω st,ω sc,δ os ss.length au,has,φ pr,δ av ex.length ke,δ aw pl.length ar] 133) (PX++ssB (ss.take k))) (λi _=>ss.length-(intOf i).toNat)
 case atStart=>exact⟨0,τ,rfl,_,by simpa [ssB] using am.o⟩
 case round=>
  obtain⟨k,ao,rfl,az⟩:=hrel;have ad:=κ az;have bS:(PX++ssB (ss.take k)).length<=10000:=by rw[ώ,WE,Ϥ];omega
  by_cases hlt:k<ss.length
  ·obtain⟨cA,cn,bO,_,aQ,_⟩:=ax.o.s.keep az.more;cases bO;obtain⟨cl,off,rfl,cr,ct⟩:=aQ k hlt;have cu:(k:Int)<(ss.length:Int):=by omega
   have aU:ss.take (k+1)=ss.take k++[ss.getD k 0]:=by rw[ϡ hlt];simp[hlt]
   have aT:PX++ssB (ss.take (k+1))=PX++ssB (ss.take k)++qy (ss.getD k 0) 4:=by rw[aU,AP,ϭ]
   have bF:=κ aT;have bW:=bE.o k;obtain⟨cK,bf⟩:=az;have aM:=κ bf;clear aQ aU aT bf;generalize ss.getD k 0=x at *;obtain⟨cF,cG⟩:=bW
   go_wp2_with (go_at_call 113;(go_call uw aM.o.wr x τ τ as e w8 ⟨rfl,bu⟩;obtain⟨ce,bg⟩:=aM.o.wrote bu;have bH:=κ bg;clear bg bu))
   go_roundw
   case rel=>exact⟨k+1,τ,by go_num,ce,by rw[bF.o];exact bH.o⟩
   case measure=>simp[intOf];omega
  ·obtain rfl:k=ss.length:=by omega
   rw[Ϩ] at ad bS;clear az;have d:=WrX.cell ad.o 0 (v:= μ mr) rfl;have G:=WrX.cell ad.o 1 (v:= υ ty) rfl;have H:=WrX.cell ad.o 2 (v:= φ sq) rfl;have I:=WrX.cell ad.o 3 (v:= ω st) rfl;have J:=WrX.cell ad.o 4 (v:= ω sc) rfl;have N:=WrX.cell ad.o 5 (v:= δ os ss.length au) rfl;have O:=WrX.cell ad.o 6 (v:= μ has) rfl;have U:=WrX.cell ad.o 7 (v:= φ pr) rfl;have Y:=WrX.cell ad.o 8 (v:= δ av ex.length ke) rfl;have aa:=WrX.cell ad.o 9 (v:= δ aw pl.length ar) rfl;generalize aP:PX++ssB ss=PY at *;have bB:=κ aP;clear aP
   go_upto_if 56 with fail
   go_cut [] from 57 (λaq=>WrX w aq W3.heap.size w.heap.size (.cells #[μ mr,υ ty,φ sq,ω st,ω sc,δ os ss.length au,has,φ pr,δ av ex.length ke,δ aw pl.length ar] 133) (PY++ap))
   case first=>
    cases has with
    | false=>
     have aC:=κ (bv.o η);go_wp2;go_meet;rw[aC.o,Θ];exact ad.o
    | true=>
     have aC:=κ (bw.o η);obtain⟨v9,bh⟩:=ad.o;have aN:=κ bh;have cx:((ex.length:Int)).tdiv 4=(ex.length:Int)/4:=Q1 τ;clear bh
     go_wp2_with first | (go_at_call 112;((with_reducible refine(kU aN.o.wr pr τ τ).mono ?_);rintro e cf ⟨rfl,bn⟩;obtain⟨cb,aW⟩:=aN.o.wrote bn;have al:=κ aW;clear aW bn d G H I J N O U Y aa;have d:=β0 al.o.keep;have G:=β1 al.o.keep;have H:=β2 al.o.keep;have I:=β3 al.o.keep;have J:=β4 al.o.keep;have N:=β5 al.o.keep;have O:=β6 al.o.keep;have U:=β7 al.o.keep;have Y:=β8 al.o.keep;have aa:=β9 al.o.keep)) | (go_at_call 112;((with_reducible refine(kU al.o.wr ((ex.length:Int)/4) τ (by have:=ju pr 2;simp only[ώ] at *;omega)).mono ?_);rintro e cg ⟨rfl,bo⟩;obtain⟨cc,aX⟩:=al.o.wrote bo;have ag:=κ aX;clear aX bo d G H I J N O U Y aa;have d:=β0 ag.o.keep;have G:=β1 ag.o.keep;have H:=β2 ag.o.keep;have I:=β3 ag.o.keep;have J:=β4 ag.o.keep;have N:=β5 ag.o.keep;have O:=β6 ag.o.keep;have U:=β7 ag.o.keep;have Y:=β8 ag.o.keep;have aa:=β9 ag.o.keep)) | (go_at_call 114;(go_call uU ag.o.wr _ ex (ax.o.e.keep ag.o.more) (by have:=ju pr 2;have:=ju ((ex.length:Int)/4) 2;simp only[ώ] at *;omega) as e w13 ⟨rfl,bp⟩;obtain⟨bk,aY⟩:=ag.o.wrote bp;have bG:=κ aY;clear aY bp))
     go_meet;rw[aC.o];exact⟨bk,by have:=bG.o;simpa only[ϭ] using this⟩
   case rest=>
    obtain⟨cd,aZ⟩:=hcut;have ah:=κ aZ;clear aZ ad d G H I J N O U Y aa;have d:=β0 ah.o.keep;have G:=β1 ah.o.keep;have H:=β2 ah.o.keep;have I:=β3 ah.o.keep;have J:=β4 ah.o.keep;have N:=β5 ah.o.keep;have O:=β6 ah.o.keep;have U:=β7 ah.o.keep;have Y:=β8 ah.o.keep;have aa:=β9 ah.o.keep;have cv:(PY++ap).length<=20000:=by rw[ώ];omega
    go_wp2_with first | (go_at_call 114;(go_call uU ah.o.wr _ pl (ax.o.l.keep ah.o.more) τ as e cL ⟨rfl,bq⟩;obtain⟨cI,ba⟩:=ah.o.wrote bq;have aD:=κ ba;clear ba bq d G H I J N O U Y aa)) | (go_at_call 115;(go_call wZ aD.o.wr (by rw[ώ];omega) as e cM ⟨cJ,rfl,aS,aR⟩;have bz:=κ aS;have bx:=κ aR;clear aS aR))
    go_ret2
    refine⟨⟨_,rfl, ?_⟩,aD.o.more.trans bx.o⟩;have:=qbY bz.o aD.o.more.size;rw[<-bB.o,<-bA.o] at this;exact this
def jY {e:Nat} {cur:Array Value} (h:w.heap[g]? =ϊ (.cells cur e (0,0))) (cs:Array Value):(w.setRow g cs).heap[g]? =ϊ (.cells cs e (0,0)):=setRow_heap w g cur cs e (0,0) h
def EC (w:World) (g:Nat) (cs:Array Value):jt (λk=>k=g) w (w.setRow g cs):=by
 refine⟨rfl,rfl,rfl,by simp[World.setRow],λb G d=> ?_⟩;unfold World.setRow;simp only;rw[F8,Ϗ (λe=>d e.symm)]
def qS {o:Obj} (h:w.heap[b]? =ϊ o) (cs:Array Value) (d:b≠g):(w.setRow g cs).heap[b]? =ϊ o:=(EC w g cs).blk h d
def jt.row {a b:World} (h:jt S a b) (d:S g) (cs:Array Value):jt S a (b.setRow g cs):=h.trans ((EC b g cs).mono λk e=>by rw[e];exact d)
def jt.rowNew {a b:World} (h:jt S a b) (G:a.heap.size<=g) (cs:Array Value):jt S a (b.setRow g cs):=by
 have k:=EC b g cs;exact⟨k.os.trans h.os,k.tape.trans h.tape,k.output.trans h.output,ϙ h.size k.size,λi hi d=>by rw[k.block i (ϗ hi h.size) τ];exact h.block i hi d⟩
def jt.alc {a b:World} (h:jt S a b) (o:Obj):jt S a (b.alloc o):=h.more X6
def jt.grown {a b c:World} (h:jt S a b) {v:Option Nat} (g:b.grownBy c v) (H: ∀k,v=ϊ k->a.heap.size<=k):jt S a c:=
 ⟨g.os.trans h.os,g.tape.trans h.tape,g.output.trans h.output,ϙ h.size g.size,λk d G=>by rw[g.block k (ϗ d h.size) (λe=>by have:=H k e.symm;omega)];exact h.block k d G⟩
def Wr: ∀(css:List (List Value)) (i j:Nat),(∀c∈css,c.length=n)->i<css.length->j<n->css.flatten[i* n+j]? =(css.getD i [])[j]?
 | [],_,_,_,h,_=>ϧ h η
 | c::css,0,j,hl,_,hj=>by
  have:=hl c η;rw[D5,N4,G5,Ψ τ];rfl
 | c::css,i+1,j,hl,hi,hj=>by
  have d:=hl c η;rw[D5,ε (by rw[d,I5];omega),d,show (i+1)* n+j-n=i* n+j by rw[I5];omega];exact Wr css i j (λG H=>hl G (by simp[H])) (by simpa using hi) hj
def DN: ∀(css:List (List Value)),(∀c∈css,c.length=n)->css.flatten.length=css.length* n
 | [],_=>by simp
 | c::css,h=>by
  rw[D5,ώ,DN css λd G=>h d (by simp[G]),h c η,Ϙ,I5];omega
def Yq (z:Array Value) (k n:Nat) (G:z.size=k) (d:0<k):madeCells z (n* k)=(List.replicate n z.toList).flatten.toArray:=by
 apply Array.ext';apply M3;intro j;have H: ∀c∈List.replicate n z.toList,c.length=k:=λc Y=>by rw[I4 Y];simpa using G
 by_cases hj:j<n* k
 ·have J:j/k<n:=by rw[T6 d];exact hj
  have N:j/k* k+j%k=j:=by rw[Nat.mul_comm];exact T3 j k
  have I:j%k<z.size:=by rw[G];exact I2 _ d
  have:=Wr (n:=k) (List.replicate n z.toList) (j/k) (j%k) H (by simpa using J) (I2 _ d);rw[N] at this;show (madeCells z (n* k)).toList[j]? =(List.replicate n z.toList).flatten[j]?;rw[this];unfold madeCells;simp[hj,J,G,List.getElem?_replicate];rw[Q3 I,getElem!_pos z (j%k) I]
 ·have O:(madeCells z (n* k)).toList[j]? =ϋ:=by rw[M8,N0,size_madeCells];omega
  have U:(List.replicate n z.toList).flatten[j]? =ϋ:=by rw[M8,DN _ H,List.length_replicate];omega
  rw[O];exact U.symm
def xQ (cur:List Value) (o:Nat) (vs:List Value):List Value:=cur.take o++vs++cur.drop (o+vs.length)
def JO: ∀(css:List (List Value)) (k:Nat) (c:List Value),(∀d∈css,d.length=n)->c.length=n->k<css.length->xQ css.flatten (k* n) c=(css.set k c).flatten
 | [],_,_,_,_,h=>ϧ h η
 | d::css,0,c,hl,hc,_=>by
  have G:=hl d η;unfold xQ;rw[N4,U2,I0,G5,D5,I6 τ,K7 τ,I0,List.set_cons_zero,D5]
 | d::css,k+1,c,hl,hc,hk=>by
  have G:=hl d η;have H:=JO css k c (λe J=>hl e (by simp[J])) hc (by simpa using hk);unfold xQ at H ⊢;rw[List.set_cons_succ,D5,D5,<-H];have I:(k+1)* n=d.length+k* n:=by rw[G,I5];omega
  rw[I,List.take_length_add_append,N2,List.drop_length_add_append];simp
def xy {t:Nat} (h:w.heap[g]? =ϊ (.cells cs.toArray t (0,0))):w.rangeAt g 0 cs:=λj v d=>by
 rw[cell_of_row w g (0+j) cs.toArray t (0,0) h,G5,Δ];exact d
section
variable {P:Program} {C:World->Prop}
def jh {l:List Oper} {T:Nat} {Q:Act->World->Prop} {k:Nat} {o:Oper} {rest:List (Nat×Bool)} (U:l[k]? =ϊ o) (H:Region.wanted o (yielded l.toArray a.tmps)=ό) (I:C w)
  (d:TypeId) (x:Operand) (Y:o.op= .load d x) (b off:Nat) (ab:a.eval x= π (ϊ ⟨b,off,ϋ⟩)) (cs:List Value) (G:TypeDesc) (N: ∀w,C w->w.rangeAt b off cs)
  (aa:P.underlying d=ϊ G) (O:G.isRow=ό) (hi:(P.info? d).map (·.size)=ϊ cs.length)
  (h: ∀K:Act->Prop,(∀a,zU P l T C Q rest a w->K a)->K (a.put o.dst (θ cs.toArray))):zU P l T C Q ((k,ύ)::rest) a w:=
 qE U H I λK J=>⟨θ cs.toArray,λw H=>by
  unfold Oper.quietAt execOp;simp only[Y,ab,Instr.loadAt,Instr.sureAddr,Sem.run_bind,Sem.run_pure,Result.andThen_ok,run_loadVar_mid w b off d cs G (N w H) aa O hi]
  exact⟨rfl,rfl⟩,h K J⟩
def YT (d:TypeId) (g off:Nat) (e:TypeId) (cur:Array Value) (cs:List Value) (J:w.heap[g]? =ϊ (.cells cur e (0,0))) (I:off+cs.length<=cur.size)
  (hi:(P.info? d).map (·.size)=ϊ cs.length) (H: ∀u∈cs,u.oneCell'=ό):
  (Instr.storeAt d (π (ϊ ⟨g,off,ϋ⟩)) (θ cs.toArray)).run P w= .ok () (w.setRow g (xQ cur.toList off cs).toArray):=by
 have G:=run_storeCells_at P g off e cs 0 cur w J (by simpa using I) H;cases hq:P.info? d with
 | none=>simp[hq] at hi
 | some i=>
  have N:cs.length=i.size:=by simp[hq] at hi;omega
  simp only[E9] at G;unfold xQ;simp[Instr.storeAt,Instr.sureAddr,storeVar,sizeOf,typeInfo,hq,Value.cells,N,G]
def zF {o:Oper} (d:TypeId) (x y:Operand) (J:o.op= .store d x y) (g off:Nat) (e:TypeId) (cur:Array Value) (cs:List Value)
  (N:a.eval x= π (ϊ ⟨g,off,ϋ⟩)) (O:a.eval y= θ cs.toArray) (I:w.heap[g]? =ϊ (.cells cur e (0,0))) (H:off+cs.length<=cur.size) (hi:(P.info? d).map (·.size)=ϊ cs.length) (G: ∀u∈cs,u.oneCell'=ό)
  (h:C (w.setRow g (xQ cur.toList off cs).toArray)/\K (a.put o.dst undef) (w.setRow g (xQ cur.toList off cs).toArray)):jn P C o a w K:=by
 unfold jn execOp;simp only[J,N,O,Sem.run_bind,Sem.run_pure,Result.andThen_ok,YT d g off e cur cs I H hi G];exact h
def jr {o:Oper} (G:TypeId) (x y:Operand) (J:o.op= .store G x y) (g:Nat) (e:TypeId) (c d:Array Value)
  (O:a.eval x= γ g) (U:a.eval y= θ d) (I:w.heap[g]? =ϊ (.cells c e (0,0))) (hi:(P.info? G).map (·.size)=ϊ d.size) (N:c.size=d.size) (H:d.all (·.oneCell')=ό)
  (h:C (w.setRow g d)/\K (a.put o.dst undef) (w.setRow g d)):jn P C o a w K:=by
 unfold jn execOp;simp only[J,O,U,Instr.storeAt,Instr.sureAddr,Sem.run_bind,Sem.run_pure,Result.andThen_ok,run_storeVar_row w g e G c d I hi N H];exact h
def xW {o:Oper} (N:o.guard=ϋ) (G:TypeId) (x y:Operand) (O:o.op= .store G x y)
  (g:Nat) (t:TypeId) (c d:Array Value) (J:w.heap[g]? =ϊ (.cells c t (0,0))) (Y:a.eval x= γ g) (aa:a.eval y= θ d)
  (hi:(P.info? G).map (·.size)=ϊ d.size) (U:c.size=d.size) (H:d.all (·.oneCell')=ό)
  (h:wpList P ops Q rest (a.put o.dst undef) (w.setRow g d)):wpList P ops Q (o::rest) a w:=by
 refine wpList_plain N λK I=> ?_
 unfold Oper.wp execOp;simp only[O,Y,aa,Instr.storeAt,Instr.sureAddr,Sem.run_bind,Sem.run_pure,Result.andThen_ok,run_storeVar_row w g t G c d J hi U H];exact I _ _ h
def yL {o:Oper} (p:Op) (_:o.op=p) (h:wpList P ops Q (o::rest) a w):wpList P ops Q (o::rest) a w:=h
def vO {o:Oper} (N:o.guard=ϋ) (d:TypeId) (x:Operand) (O:o.op= .load d x)
  (g:Nat) (t:TypeId) (c:Array Value) (G:TypeDesc) (J:w.heap[g]? =ϊ (.cells c t (0,0))) (Y:a.eval x= γ g)
  (U:P.underlying d=ϊ G) (I:G.isRow=ό) (hi:(P.info? d).map (·.size)=ϊ c.size)
  (h:wpList P ops Q rest (a.put o.dst (θ c)) w):wpList P ops Q (o::rest) a w:=by
 have H:w.rangeAt g 0 c.toList:=by
  have:=World.rangeAt_of_block J 0 c.size;rw[G5,Array.extract_size] at this;exact this
 have:=wpList_load_mid (P:=P) (ops:=ops) (rest:=rest) (op:=o) (a:=a) (w:=w) (Q:=Q) N d x O g 0 Y c.toList G H U I (by rw[hi];simp);simp only[Array.toArray_toList] at this;exact this h
def kW (w:World) (t aa e:TypeId) (z:Value) (d:List Value) (N:P.underlying t=ϊ (.slice e)) (O: ∀w,(zeroValue e).run P w= .ok z w) (U:(Builtin.zeroCells z.cells 1).toList=d) (g o c:Nat) (cur:Array Value) (J:w.heap[g]? =ϊ (.cells cur e (0,0)))
  (I:o+d.length<=cur.size) (H: ∀v∈d,v.oneCell'=ό):
  (Builtin.clear_ #[t] aa #[δ (ϊ ⟨g,o,ϋ⟩) 1 c]).run P w= .ok (.tuple #[]) (w.setRow g (xQ cur.toList o d).toArray):=by
 have Y:Builtin.zeroCells z.cells 1=d.toArray:=by
  rw[<-U]
 have G:=run_storeCells_at P g o e d 0 cur w J (by simpa using I) H;simp only[E9] at G;unfold xQ;simp[Builtin.clear_,run_underlying N,O w,Y,G]
end
def jV (A room first q:Nat) (ci co cd cg:Int):Array Value:=
 #[.slice (ϊ ⟨A,0,ϋ⟩) room room,.int .i64 first,.int .i64 q,.bool ύ,.int .i64 ci,.int .i64 co,.int .i64 cd,.int .i64 cg]
structure qN (n tr te:Nat) (w:World) (R A room first:Nat) (q:List (List Value)) (ci co cd cg:Int) (css:List (List Value)):Prop where
 ring:w.heap[R]? =ϊ (.cells (jV A room first q.length ci co cd cg) tr (0,0))
 row:w.heap[A]? =ϊ (.cells css.flatten.toArray te (0,0))
 ne:R≠A
 len:css.length=room
 all: ∀c∈css,c.length=n/\ ∀u∈c,u.oneCell'=ό
 pos:1<=room/\room<=8
 fst:first<room
 fits:q.length<=room
 holds: ∀i,i<q.length->css.getD ((first+i)%room) []=q.getD i []
def RgB (R A:Nat) (b:Nat):Prop:=b=R∨b=A
def Mb (first i room:Nat):((first+1)%room+i)%room=(first+(i+1))%room:=by
 rw[Nat.mod_add_mod];congr 1;omega
def DO {first i:Nat} (h:first<room) (hi:i<room):(first+i)%room=if first+i<room then first+i else first+i-room:=by
 split
 ·exact O2 (by assumption)
 ·rw[Nat.mod_eq_sub_mod τ,O2 τ]
section
variable {n tr te:Nat} {w w':World} {R A room first:Nat} {q:List (List Value)} {ci co cd cg:Int} {css:List (List Value)}
def qN.away (h:qN n tr te w R A room first q ci co cd cg css) (a:jt S w w') (G: ¬S R) (d: ¬S A):qN n tr te w' R A room first q ci co cd cg css:=
 {h with ring:=a.blk h.ring G,row:=a.blk h.row d}
def qN.more (h:qN n tr te w R A room first q ci co cd cg css) (m:ql w w'):qN n tr te w' R A room first q ci co cd cg css:=
 {h with ring:=qq m h.ring,row:=qq m h.row}
def qN.ctr (h:qN n tr te w R A room first q ci co cd cg css) (i:Nat) (v:Value) {H I d G:Int} (e:(jV A room first q.length ci co cd cg).setIfInBounds i v=jV A room first q.length H I d G):qN n tr te (w.setCell ⟨R,i,ϋ⟩ v) R A room first q H I d G css:=
 {h with ring:=qB (qp h.ring i v) e,row:=qo h.row _ _ (C4 h.ne)}
def qN.popped (h:qN n tr te w R A room first q ci co cd cg css) (v:Int):qN n tr te (w.setCell ⟨R,5,ϋ⟩ (ι v)) R A room first q ci v cd cg css:=h.ctr 5 _ rfl
def qN.dropped (h:qN n tr te w R A room first q ci co cd cg css) (v:Int):qN n tr te (w.setCell ⟨R,6,ϋ⟩ (ι v)) R A room first q ci co v cg css:=h.ctr 6 _ rfl
def qN.drained (h:qN n tr te w R A room first q ci co cd cg css) (v:Int):qN n tr te (w.setCell ⟨R,7,ϋ⟩ (ι v)) R A room first q ci co cd v css:=h.ctr 7 _ rfl
def yo {p u:Tmp} {d:TypeId} (h:I.results= #[.cell p d,.tmp u]) (tmps:Array Value) (w:World) (g:Nat) (t:TypeId) (cs:Array Value) (G:TypeDesc) (H:Value)
  (O:tmps.getD p undef= γ g) (Y:tmps.getD u undef=H) (N:w.heap[g]? =ϊ (.cells cs t (0,0)))
  (ab:P.underlying d=ϊ G) (J:(match G with | .struct _ | .array _ _=>ό | _=>ύ)=ό) (hi:(P.info? d).map (·.size)=ϊ cs.size):
  (results I tmps).run P w= .ok (.tuple #[θ cs,H]) w:=by
 have U:tmps[p]?.getD undef= γ g:=by simpa using O
 have aa:tmps[u]?.getD undef=H:=by simpa using Y
 simp[results,h,U,aa,asAddr,run_loadVar_row w g t d cs (0,0) G N ab J hi]
def KW {p u s:Tmp} {d:TypeId} (h:I.results= #[.cell p d,.tmp u,.tmp s]) (tmps:Array Value) (w:World) (g:Nat) (t:TypeId) (cs:Array Value) (G:TypeDesc) (H v3:Value)
  (O:tmps.getD p undef= γ g) (Y:tmps.getD u undef=H) (ab:tmps.getD s undef=v3) (N:w.heap[g]? =ϊ (.cells cs t (0,0)))
  (ad:P.underlying d=ϊ G) (J:(match G with | .struct _ | .array _ _=>ό | _=>ύ)=ό) (hi:(P.info? d).map (·.size)=ϊ cs.size):
  (results I tmps).run P w= .ok (.tuple #[θ cs,H,v3]) w:=by
 have U:tmps[p]?.getD undef= γ g:=by simpa using O
 have aa:tmps[u]?.getD undef=H:=by simpa using Y
 have ac:tmps[s]?.getD undef=v3:=by simpa using ab
 simp[results,h,U,aa,ac,asAddr,run_loadVar_row w g t d cs (0,0) G N ad J hi]
def qN.cl (h:qN n tr te w R A room first q ci co cd cg css): ∀c∈css,c.length=n:=λc d=>(h.all c d).1
def qN.size (h:qN n tr te w R A room first q ci co cd cg css):css.flatten.toArray.size=room* n:=by rw[G7,DN css h.cl,h.len]
def qN.range (h:qN n tr te w R A room first q ci co cd cg css) {k:Nat} (J:k<room):w.rangeAt A (k* n) (css.getD k []):=λj v G=>by
 have d:k<css.length:=by rw[h.len];exact J
 have H:(css.getD k []).length=n:=by
  rw[ϒ,ϖ d];exact h.cl _ (ϥ d)
 have I:j<n:=by rw[<-H];exact(ϣ.1 G).1
 rw[cell_of_row w A (k* n+j) css.flatten.toArray te (0,0) h.row,Δ,Wr css k j h.cl d I];exact G
def qN.head (h:qN n tr te w R A room first (c::T) ci co cd cg css):css.getD first []=c:=by
 have:=h.holds 0 η;rw[E9,O2 h.fst] at this;exact this
def qN.ofHead (h:qN n tr te w R A room first (c::T) ci co cd cg css):c.length=n/\ ∀u∈c,u.oneCell'=ό:=by
 rw[<-h.head];have d:first<css.length:=by rw[h.len];exact h.fst
 rw[ϒ,ϖ d];exact h.all _ (ϥ d)
def qN.qall (h:qN n tr te w R A room first q ci co cd cg css): ∀c∈q,c.length=n/\ ∀u∈c,u.oneCell'=ό:=λc G=>by
 obtain⟨i,hi,rfl⟩:=B4.1 G;have:=h.holds i hi;rw[ϒ,ϒ,ϖ hi,ϰ] at this;rw[<-this];have d:(first+i)%room<css.length:=by rw[h.len];exact I2 _ (by have:=h.pos;omega)
 rw[ϖ d];exact h.all _ (ϥ d)
def WH {p:List Value->Prop} {k:Nat} (h: ∀c∈css,p c) (G:p z): ∀c∈css.set k z,p c:=λc d=>by
 rcases List.mem_or_eq_of_mem_set d with h1 | rfl
 ·exact h c h1
 ·exact G
def qN.took (h:qN n tr te w R A room first (c::T) ci co cd cg css) (ab:z.length=n/\ ∀u∈z,u.oneCell'=ό) {H I d G:Int}
  (Y:w'.heap[R]? =ϊ (.cells (jV A room ((first+1)%room) T.length H I d G) tr (0,0))) (aa:w'.heap[A]? =ϊ (.cells (css.set first z).flatten.toArray te (0,0))):qN n tr te w' R A room ((first+1)%room) T H I d G (css.set first z):=by
 have N:=h.fits;simp at N;refine⟨Y,aa,h.ne,by rw[List.length_set];exact h.len,WH h.all ab,h.pos,I2 _ (by have:=h.pos;omega),τ,λi hi=> ?_⟩;rw[Mb];have U:=h.holds (i+1) (by simp;omega);have J:=h.fst;have O:(first+(i+1))%room≠first:=by
  intro e;rw[DO J τ] at e;split at e<;>omega
 rw[ϒ,J5 (C4 O),<-ϒ,U];rfl
def qN.put (h:qN n tr te w R A room first q ci co cd cg css) (Y:q.length<room) (O:c.length=n/\ ∀u∈c,u.oneCell'=ό) {I J G H:Int}
  (aa:w'.heap[R]? =ϊ (.cells (jV A room first (q.length+1) I J G H) tr (0,0))) (ab:w'.heap[A]? =ϊ (.cells (css.set ((first+q.length)%room) c).flatten.toArray te (0,0))):qN n tr te w' R A room first (q++[c]) I J G H (css.set ((first+q.length)%room) c):=by
 refine⟨by simpa using aa,ab,h.ne,by rw[List.length_set];exact h.len,WH h.all O,h.pos,h.fst,by simp;omega,λi hi=> ?_⟩;have N:=h.fst;simp at hi;by_cases e:i=q.length
 ·subst e;rw[ϒ,T1 (by rw[h.len];exact I2 _ τ)];simp
 ·have U:(first+i)%room≠(first+q.length)%room:=by
   intro d;rw[DO N τ,DO N Y] at d;split at d<;>split at d<;>omega
  rw[ϒ,J5 (C4 U),<-ϒ,h.holds i τ];simp only[ϒ];rw[Ψ τ]
end
def Wt (zs:List Value) (first room:Nat) (q0 css:List (List Value)) (cd:Int):Bool->List Value->Nat->List (List Value)->Int->List (List Value)->Prop
 | false,old,f,q,cd',cs=>old=zs/\f=first/\q=q0/\cd'=cd/\cs=css
 | true,old,f,q,_,cs=>q0=old::q/\f=(first+1)%room/\cs=css.set first zs
def jj (n:Int):Bool:=decide (0<=n/\n<3)
def Ψ1 {P:Prop} (h:P:=by
 have G:Hid (jj n=decide (0<=n/\n<3)):=κ rfl;by_cases h1:0<=n
 ·by_cases h2:n<3
  ·have d:jj n=ό:=by rw[G.o];simp[h1,h2]
   rw[d]
   go_enter Ξa,Ξb
   go_wp2
   all_goals (go_ret;first | exact⟨rfl,rfl⟩ | omega)
  ·have d:jj n=ύ:=by rw[G.o];simp[h2]
   rw[d]
   go_enter Ξa,Ξb
   go_wp2
   all_goals (go_ret;first | exact⟨rfl,rfl⟩ | omega)
 ·have d:jj n=ύ:=by rw[G.o];simp[h1]
  rw[d]
  go_enter Ξa,Ξb
  go_wp2
  all_goals (go_ret;first | exact⟨rfl,rfl⟩ | omega)):P:=h
section
open _root_.Go.Proofs.Tryz renaming func136->Ξa,ntmps136->Ξb
def YQ (n:Int) (w:World):Calls prog 136 #[ι n] w λe w'=>e= .returned (μ (jj n))/\w'=w:=Ψ1
end
section
open _root_.Go.Proofs.Tryz renaming func103->Ξa,ntmps103->Ξb
def xX (n:Int) (w:World):Calls prog 103 #[ι n] w λe w'=>e= .returned (μ (jj n))/\w'=w:=Ψ1
end
def QT (c t n:Int) (d:jj n=ό) (w:World):Calls prog 104 #[θ #[ι c,ι t],ι n] w λe w'=>e= .returned (.tuple #[θ #[ι c,ι n],ι 0])/\ql w w':=by
 have G:=κ d;clear d
 go_enter func104,ntmps104
 go_wp2_with (first | (go_at_call 136;((with_reducible refine(YQ n _).mono ?_);rintro e w1 ⟨rfl,rfl⟩;rw[G.o])))
 refine bodyPost_ret (v:= .tuple #[θ #[ι c,ι n],ι 0]) (by simp[results,results104,go_sem]) rfl ?_;exact⟨rfl,ρ⟩
def YS (n:Int) (H:jj n=ό) (w:World):Calls prog 105 #[ι n] w λe w'=>e= .returned (.tuple #[θ #[ι (-1),ι n],ι 0])/\ql w w':=by
 have I:=κ H;clear H
 go_enter func105,ntmps105
 go_wp2_with (first | (go_at_call 104;(go_call QT (-1) 0 n I.o _ as e w1 ⟨rfl,d⟩;have G:Hid (w1.heap[w.heap.size]? =ϊ (.cells #[ι 0,ι 0] 221 (0,0))):=κ (qq d (qj _ _));have J:=κ (X6.trans d);clear d)) | (refine yL (.store 221 (.tmp 2) (.tmp 7)) rfl ?_;refine xW rfl 221 (.tmp 2) (.tmp 7) rfl w.heap.size 221 _ #[ι (-1),ι n] G.o rfl rfl ξ rfl (all_oneCell_toArray X8) ?_))
 refine bodyPost_ret (v:= .tuple #[θ #[ι (-1),ι n],ι 0]) (yo results105 _ _ w.heap.size 221 #[ι (-1),ι n] _ _ rfl rfl (jY G.o _) underlying221 rfl ξ) rfl ?_;exact⟨rfl,(EC _ _ _).to_more J.o (λk e=>by rw[e];exact ϔ _)⟩
def Uo (c t n:Int) (k:Bool) (d:(n==c)=ό) (G:(n != c)=ύ) (w:World):Calls prog 252 #[θ #[ι c,ι t],ι n,k] w λe w'=>e= .returned (.tuple #[θ #[ι c,ι t],ι 0,ύ])/\ql w w':=by
 go_enter func252,ntmps252
 go_wp2;refine bodyPost_ret (v:= .tuple #[θ #[ι c,ι t],ι 0,ύ]) (by simp[results,results252,go_sem]) rfl ?_;exact⟨rfl,ρ⟩
def Up (c t n:Int) (k:Bool) (d:(n != c)=ό) (G:(n==t)=ό) (H:k=ό) (w:World):Calls prog 252 #[θ #[ι c,ι t],ι n,k] w λe w'=>e= .returned (.tuple #[θ #[ι n,ι t],ι 0,ό])/\ql w w':=by
 go_enter func252,ntmps252
 go_wp2;refine bodyPost_ret (v:= .tuple #[θ #[ι n,ι t],ι 0,ό]) (by simp[results,results252,go_sem]) rfl ?_;exact⟨rfl,ρ⟩
def V9 (c t n:Int) (k:Bool) (G:(n != c)=ό) (d:(n==c)=ύ) (H:(n==t)=ό) (I:k=ύ) (w:World):Calls prog 252 #[θ #[ι c,ι t],ι n,k] w λe w'=>e= .returned (.tuple #[θ #[ι c,ι t],ι 5,ύ])/\ql w w':=by
 go_enter func252,ntmps252
 go_wp2;refine bodyPost_ret (v:= .tuple #[θ #[ι c,ι t],ι 5,ύ]) (by simp[results,results252,go_sem]) rfl ?_;exact⟨rfl,ρ⟩
def AG (c t n:Int) (k:Bool) (G:(n != c)=ό) (d:(n==c)=ύ) (H:(n==t)=ύ) (w:World):Calls prog 252 #[θ #[ι c,ι t],ι n,k] w λe w'=>e= .returned (.tuple #[θ #[ι c,ι t],ι 4,ύ])/\ql w w':=by
 go_enter func252,ntmps252
 go_wp2;refine bodyPost_ret (v:= .tuple #[θ #[ι c,ι t],ι 4,ύ]) (by simp[results,results252,go_sem]) rfl ?_;exact⟨rfl,ρ⟩
def Ka (m:Int) (d:1<=m) (G:m<=10) (w:World):Calls prog 101 #[ι m] w λe w'=>e= .returned (.tuple #[θ #[ι m,ι 0,ύ],ι 0])/\ql w w':=by
 go_enter func101,ntmps101
 go_wp2;refine bodyPost_ret (v:= .tuple #[θ #[ι m,ι 0,ύ],ι 0]) (by simp[results,results101,go_sem]) rfl ?_;exact⟨rfl,ρ⟩
def Zf (s q t:Int) (w:World):Calls prog 102 #[ω s,φ q,ω t] w λe w'=>e= .returned (θ #[ω s,φ q,ω t,ύ,ω 0,ω 0])/\ql w w':=by
 go_enter func102,ntmps102
 go_wp2;refine bodyPost_ret (v:= θ #[ω s,φ q,ω t,ύ,ω 0,ω 0]) (by simp[results,results102,go_sem]) rfl ?_;exact⟨rfl,ρ⟩
def XP (m r:Int) (g:Bool) (w:World):Calls prog 273 #[θ #[ι m,ι r,g]] w λe w'=>e= .returned (θ #[ι m,ι 0,g])/\ql w w':=by
 go_enter func273,ntmps273
 go_wp2;refine bodyPost_ret (v:= θ #[ι m,ι 0,g]) (by simp[results,results273,go_sem]) rfl ?_;exact⟨rfl,ρ⟩
def Zg (m r:Int) (g:Bool) (d:0<=r) (G:r<=10) (w:World):Calls prog 272 #[θ #[ι m,ι r,g]] w λe w'=>e= .returned (θ #[ι m,ι (r+1),(r+1==m)])/\ql w w':=by
 go_enter func272,ntmps272
 go_wp2;refine bodyPost_ret (v:= θ #[ι m,ι (r+1),(r+1==m)]) (by simp[results,results272,go_sem]) rfl ?_;exact⟨rfl,ρ⟩
def UL (m r:Int) (a:Bool) (w:World):Calls prog 228 #[θ #[ι m,ι r,ό],a] w λe w'=>e= .returned (.tuple #[θ #[ι m,ι r,ό],ύ])/\ql w w':=by
 go_enter func228,ntmps228
 go_wp2;refine bodyPost_ret (v:= .tuple #[θ #[ι m,ι r,ό],ύ]) (by simp[results,results228,go_sem]) rfl ?_;exact⟨rfl,ρ⟩
def Pj (m r:Int) (w:World):Calls prog 228 #[θ #[ι m,ι r,ύ],ό] w λe w'=>e= .returned (.tuple #[θ #[ι m,ι 0,ύ],ύ])/\ql w w':=by
 have U:=κ (XP m r ύ)
 go_enter func228,ntmps228
 go_wp2_with (refine(U.o _).mono ?_;rintro e w1 ⟨rfl,J⟩;have H:Hid (w1.heap[w.heap.size+1]? =ϊ (.cells #[ι 0,ι 0,ύ] 211 (0,0))):=κ (qq J (qC η));have O:Hid (ql w w1):=κ ((X6.al _).trans J);clear J)
 obtain⟨W1,G⟩:=ν (w1.alloc (.cells #[ι m,ι 0,ύ] 211));have aa:Hid (ql w W1):=κ (by rw[<-G];exact O.o.al _);have N:Hid (W1.heap[w.heap.size+1]? =ϊ (.cells #[ι 0,ι 0,ύ] 211 (0,0))):=κ (by rw[<-G];exact qs H.o _);have I:Hid (W1.heap[w1.heap.size]? =ϊ (.cells #[ι m,ι 0,ύ] 211 (0,0))):=κ (by rw[<-G];exact qj w1 _);rw[G];clear G O;have Y: ∀x:qz (λb=>b=w.heap.size+1) W1,x.w'.rangeAt w1.heap.size 0 [ι m,ι 0,ύ]:=λx=>xy (x.h.blk I.o (by have:=qn H.o;omega))
 have ac: ∀x:qz (λb=>b=w.heap.size+1) W1,x.w'.cell? ⟨w1.heap.size,2,ϋ⟩=ϊ (μ ύ):=λx=>x.cell (qn I.o) (by have:=qn H.o;omega) (qa I.o 2 rfl)
 clear H;refine QN (λb=>b=w.heap.size+1) W1 4 5 [3,4] ?_;refine jh rfl rfl (qi σ) 211 (.tmp 7) rfl w1.heap.size 0 rfl [ι m,ι 0,ύ] _ (λw' ab=>by obtain⟨x,rfl⟩:=ab;exact Y x) underlying211 rfl ξ ?_;intro K d;go_simp;refine d _ ?_;clear d K
 refine Qs2 ?_
 refine jR rfl rfl ?_;intro K d;refine jr 211 (.tmp 4) (.tmp 18) rfl (w.heap.size+1) 211 _ #[ι m,ι 0,ύ] rfl rfl (qb N.o 1) ξ rfl (all_oneCell_toArray X8) ?_;refine⟨qi (((jt.refl (λb=>b=w.heap.size+1) W1).drewN 1).row (g:=w.heap.size+1) rfl _), ?_⟩;go_simp;refine d _ _ ?_;clear d K
 (refine Qe ?_;intro K d)
 refine d _ _ ?_;clear d K;refine qA ?_;go_wp2;refine bodyPost_ret (v:= .tuple #[θ #[ι m,ι 0,ύ],ύ]) (yo results228 _ _ (w.heap.size+1) 211 #[ι m,ι 0,ύ] _ _ rfl rfl (jY (qb N.o 1) _) underlying211 rfl ξ) rfl ?_;exact⟨rfl,(EC _ _ _).to_more (aa.o.dr 1) (λk e=>by rw[e];exact D0 _)⟩
def BD (m r:Int) (ad:0<=r) (ae:r<=10) (q:Int) (b:Bool) (aa:r+1=q) (Y:(q==m)=b) (w:World):Calls prog 228 #[θ #[ι m,ι r,ύ],ύ] w λe w'=>e= .returned (.tuple #[θ #[ι m,ι q,b],b])/\ql w w':=by
 have I:=Zg m r ύ ad ae;rw[aa,Y] at I;have I:=κ I;clear aa Y
 go_enter func228,ntmps228
 go_wp2_with (refine(I.o _).mono ?_;rintro e w1 ⟨rfl,N⟩;have H:Hid (w1.heap[w.heap.size+1]? =ϊ (.cells #[ι 0,ι 0,ύ] 211 (0,0))):=κ (qq N (qC η));have U:Hid (ql w w1):=κ ((X6.al _).trans N);clear N)
 obtain⟨W1,G⟩:=ν (w1.alloc (.cells #[ι m,ι q,b] 211));have ac:Hid (ql w W1):=κ (by rw[<-G];exact U.o.al _);have O:Hid (W1.heap[w.heap.size+1]? =ϊ (.cells #[ι 0,ι 0,ύ] 211 (0,0))):=κ (by rw[<-G];exact qs H.o _);have J:Hid (W1.heap[w1.heap.size]? =ϊ (.cells #[ι m,ι q,b] 211 (0,0))):=κ (by rw[<-G];exact qj w1 _);rw[G];clear G U;have ab: ∀x:qz (λb=>b=w.heap.size+1) W1,x.w'.rangeAt w1.heap.size 0 [ι m,ι q,b]:=λx=>xy (x.h.blk J.o (by have:=qn H.o;omega))
 have ag: ∀x:qz (λb=>b=w.heap.size+1) W1,x.w'.cell? ⟨w1.heap.size,2,ϋ⟩=ϊ (μ b):=λx=>x.cell (qn J.o) (by have:=qn H.o;omega) (qa J.o 2 rfl)
 clear H;refine QN (λb=>b=w.heap.size+1) W1 4 5 [3,4] ?_;refine jh rfl rfl (qi σ) 211 (.tmp 7) rfl w1.heap.size 0 rfl [ι m,ι q,b] _ (λw' af=>by obtain⟨x,rfl⟩:=af;exact ab x) underlying211 rfl ξ ?_;intro K d;go_simp;refine d _ ?_;clear d K
 refine Qs2 ?_
 refine jR rfl rfl ?_;intro K d;refine jr 211 (.tmp 4) (.tmp 18) rfl (w.heap.size+1) 211 _ #[ι m,ι q,b] rfl rfl (qb O.o 1) ξ rfl (all_oneCell_toArray X8) ?_;refine⟨qi (((jt.refl (λb=>b=w.heap.size+1) W1).drewN 1).row (g:=w.heap.size+1) rfl _), ?_⟩;go_simp;refine d _ _ ?_;clear d K
 (refine Qe ?_;intro K d)
 refine d _ _ ?_;clear d K;refine qA ?_;go_wp2;refine bodyPost_ret (v:= .tuple #[θ #[ι m,ι q,b],b]) (yo results228 _ _ (w.heap.size+1) 211 #[ι m,ι q,b] _ _ rfl rfl (jY (qb O.o 1) _) underlying211 rfl ξ) rfl ?_;exact⟨rfl,(EC _ _ _).to_more (ac.o.dr 1) (λk e=>by rw[e];exact D0 _)⟩
def qbx {J:Func} {p u:Tmp} {d G:TypeId} (h:J.results= #[.cell p d,.cell u G]) (tmps:Array Value) (w:World) (g g':Nat) (t t':TypeId) (cs cs':Array Value) (H I:TypeDesc)
  (ab:tmps.getD p undef= γ g) (ad:tmps.getD u undef= γ g') (U:w.heap[g]? =ϊ (.cells cs t (0,0))) (Y:w.heap[g']? =ϊ (.cells cs' t' (0,0)))
  (af:P.underlying d=ϊ H) (N:(match H with | .struct _ | .array _ _=>ό | _=>ύ)=ό) (hi:(P.info? d).map (·.size)=ϊ cs.size)
  (ag:P.underlying G=ϊ I) (O:(match I with | .struct _ | .array _ _=>ό | _=>ύ)=ό) (aa:(P.info? G).map (·.size)=ϊ cs'.size):
  (results J tmps).run P w= .ok (.tuple #[θ cs,θ cs']) w:=by
 have ac:tmps[p]?.getD undef= γ g:=by simpa using ab
 have ae:tmps[u]?.getD undef= γ g':=by simpa using ad
 simp[results,h,ac,ae,asAddr,run_loadVar_row w g t d cs (0,0) H U af N hi,run_loadVar_row w g' t' G cs' (0,0) I Y ag O aa]
structure RwS where
 src:Int
 sq:Int
 st:Int
 any:Bool
 last:Int
 shift:Int
def shL (s:RwS) (t:Int) (first:Bool):Int:=if s.any then (if first then (s.last+3000-t)%4294967296 else s.shift) else (s.st-t)%4294967296
def Az (H sq st d O:Int) (any first:Bool) (J:Bool) (N q t U:Int) (w:World) (X:Int) (G:shL ⟨H,sq,st,any,d,O⟩ t first=X):
    Calls prog 296 #[θ #[ω H,φ sq,ω st,any,ω d,ω O],θ #[μ J,υ N,φ q,ω t,ω U],first] w
      λe w'=>e= .returned (θ #[μ J,υ N,φ sq,ω ((t+X)%4294967296),ω H,ω X])/\ql w w':=by
  cases any with
  | false=>
    obtain rfl:X=(st-t)%4294967296:=by rw[<-G];rfl
    clear G
    have I:(t+(st-t)%4294967296)%4294967296=(t+(st-t))%4294967296:=by omega
    rw[I]
    clear I
    go_enter func296,ntmps296
    go_wp2
    refine bodyPost_ret (v:= θ #[μ J,υ N,φ sq,ω ((t+(st-t))%4294967296),ω H,ω ((st-t)%4294967296)]) (by simp[results,results296,go_sem]) rfl ?_
    exact⟨rfl,ρ⟩
  | true=>
   cases first with
   | true=>
    obtain rfl:X=(d+3000-t)%4294967296:=by rw[<-G];rfl
    clear G
    have I:(t+(d+3000-t)%4294967296)%4294967296=(t+(d+3000-t))%4294967296:=by omega
    rw[I]
    clear I
    go_enter func296,ntmps296
    go_wp2
    refine bodyPost_ret (v:= θ #[μ J,υ N,φ sq,ω ((t+(d+3000-t))%4294967296),ω H,ω ((d+3000-t)%4294967296)]) (by simp[results,results296,go_sem]) rfl ?_
    exact⟨rfl,ρ⟩
   | false=>
    obtain rfl:X=O:=by rw[<-G];rfl
    clear G
    go_enter func296,ntmps296
    go_wp2
    refine bodyPost_ret (v:= θ #[μ J,υ N,φ sq,ω ((t+X)%4294967296),ω H,ω X]) (by simp[results,results296,go_sem]) rfl ?_
    exact⟨rfl,ρ⟩
def AI (d sq st O Y:Int) (any first:Bool) (I:Bool) (J q t ao:Int) (w:World) (X:Int) (aj:shL ⟨d,sq,st,any,O,Y⟩ t first=X) (Z:Int) (ak:(t+X)%4294967296=Z) (Q:Int) (ai:(sq+1)%65536=Q):
  Calls prog 255 #[θ #[ω d,φ sq,ω st,any,ω O,ω Y],θ #[μ I,υ J,φ q,ω t,ω ao],first] w
   λe w'=>e= .returned (.tuple #[θ #[ω d,φ Q,ω st,ό,ω Z,ω X],θ #[μ I,υ J,φ sq,ω Z,ω d]])/\ql w w':=by
 have aa:=λw=>Az d sq st O Y any first I J q t ao w X aj
 rw[ak] at aa;have aa:=κ aa;have ag:=κ ai;clear aj ak ai
 go_enter func255,ntmps255
 go_wp2_with (refine(aa.o _).mono ?_;rintro e w1 ⟨rfl,U⟩;have G:Hid (w1.heap[w.heap.size]? =ϊ (.cells #[ω d,φ sq,ω st,any,ω O,ω Y] 215 (0,0))):=κ (qq U (by repeat (first | exact qC η | refine qs ?_ _)));have ad:Hid (w1.heap[w.heap.size+2]? =ϊ (.cells #[ω 0,φ 0,ω 0,ύ,ω 0,ω 0] 215 (0,0))):=κ (qq U (by repeat (first | exact qC η | refine qs ?_ _)));have ab:Hid (w1.heap[w.heap.size+3]? =ϊ (.cells #[μ ύ,υ 0,φ 0,ω 0,ω 0] 128 (0,0))):=κ (qq U (by repeat (first | exact qC η | refine qs ?_ _)));have ah:Hid (ql w w1):=κ ((((ql.refl w).al _ |>.al _ |>.al _ |>.al _)).trans U);clear U;have aF:w.heap.size<w1.heap.size:=qn G.o;have aB:w1.cell? ⟨w.heap.size,1,ϋ⟩=ϊ (φ sq):=qa G.o 1 rfl;have aC:w1.cell? ⟨w.heap.size,3,ϋ⟩=ϊ (μ any):=qa G.o 3 rfl;have aD:w1.cell? ⟨w.heap.size,4,ϋ⟩=ϊ (ω O):=qa G.o 4 rfl;have aE:w1.cell? ⟨w.heap.size,5,ϋ⟩=ϊ (ω Y):=qa G.o 5 rfl;have aw:w1.frozen? ⟨w.heap.size,1,ϋ⟩=ύ:=yw G.o 1;have ax:w1.frozen? ⟨w.heap.size,3,ϋ⟩=ύ:=yw G.o 3;have ay:w1.frozen? ⟨w.heap.size,4,ϋ⟩=ύ:=yw G.o 4;have az:w1.frozen? ⟨w.heap.size,5,ϋ⟩=ύ:=yw G.o 5)
 have an:IntKind.u16.wrap (sq+1)=Q:=ag.o;rw[an];obtain⟨W1,N⟩:=ν ((((((w1.setCell ⟨w.heap.size,1,ϋ⟩ (φ Q)).setCell ⟨w.heap.size,3,ϋ⟩ (μ ό)).setCell ⟨w.heap.size,4,ϋ⟩ (ω Z)).setCell ⟨w.heap.size,5,ϋ⟩ (ω X)).alloc (.cells #[μ I,υ J,φ sq,ω Z,ω d,ω X] 445)));have au:Hid (ql w W1):=κ (by rw[<-N];exact((((ah.o.st (ϔ _) _).st (ϔ _) _).st (ϔ _) _).st (ϔ _) _).al _);have av:Hid (W1.heap[w.heap.size]? =ϊ (.cells #[ω d,φ Q,ω st,ό,ω Z,ω X] 215 (0,0))):=κ (by rw[<-N];exact qs (qB (qp (qp (qp (qp G.o 1 _) 3 _) 4 _) 5 _) rfl) _);have ae:Hid (W1.heap[w.heap.size+2]? =ϊ (.cells #[ω 0,φ 0,ω 0,ύ,ω 0,ω 0] 215 (0,0))):=κ (by rw[<-N];exact qs (qo (qo (qo (qo ad.o ⟨w.heap.size,1,ϋ⟩ _ (by show w.heap.size+2≠w.heap.size;omega)) ⟨w.heap.size,3,ϋ⟩ _ (by show w.heap.size+2≠w.heap.size;omega)) ⟨w.heap.size,4,ϋ⟩ _ (by show w.heap.size+2≠w.heap.size;omega)) ⟨w.heap.size,5,ϋ⟩ _ (by show w.heap.size+2≠w.heap.size;omega)) _);have af:Hid (W1.heap[w.heap.size+3]? =ϊ (.cells #[μ ύ,υ 0,φ 0,ω 0,ω 0] 128 (0,0))):=κ (by rw[<-N];exact qs (qo (qo (qo (qo ab.o ⟨w.heap.size,1,ϋ⟩ _ (by show w.heap.size+3≠w.heap.size;omega)) ⟨w.heap.size,3,ϋ⟩ _ (by show w.heap.size+3≠w.heap.size;omega)) ⟨w.heap.size,4,ϋ⟩ _ (by show w.heap.size+3≠w.heap.size;omega)) ⟨w.heap.size,5,ϋ⟩ _ (by show w.heap.size+3≠w.heap.size;omega)) _);have ap:Hid (W1.heap[w1.heap.size]? =ϊ (.cells #[μ I,υ J,φ sq,ω Z,ω d,ω X] 445 (0,0))):=κ (by rw[<-N];exact qC η);have aG:w.heap.size+3<w1.heap.size:=qn ab.o;rw[N];clear N ah G ad ab aB aC aD aE aw ax ay az an ag;have aq: ∀x:qz (λb=>b=w.heap.size+2∨b=w.heap.size+3) W1,x.w'.rangeAt w.heap.size 0 [ω d,φ Q,ω st,ό,ω Z,ω X]:=λx=>xy (x.h.blk av.o τ)
 have ar: ∀x:qz (λb=>b=w.heap.size+2∨b=w.heap.size+3) W1,x.w'.rangeAt w1.heap.size 0 [μ I,υ J,φ sq,ω Z,ω d]:=λx=>by
  have:=xy (cs:=[μ I,υ J,φ sq,ω Z,ω d,ω X]) (x.h.blk ap.o τ);intro j v am;refine this j v ?_;have aA:=(ϣ.1 am).1;rw[<-am];exact Ψ (l₂:=[ω X]) aA
 refine QN (λb=>b=w.heap.size+2∨b=w.heap.size+3) W1 4 5 [3,4] ?_;refine jh rfl rfl (qi σ) 215 (.tmp 3) rfl w.heap.size 0 rfl [ω d,φ Q,ω st,ό,ω Z,ω X] _ (λw' ac=>by obtain⟨x,rfl⟩:=ac;exact aq x) underlying215 rfl ξ ?_;intro K H;go_simp;refine H _ ?_;clear H K
 refine Qs1 ?_
 refine jh rfl rfl (qi σ) 128 (.tmp 26) rfl w1.heap.size 0 rfl [μ I,υ J,φ sq,ω Z,ω d] _ (λw' ac=>by obtain⟨x,rfl⟩:=ac;exact ar x) underlying128 rfl ξ ?_;intro K H;go_simp;refine H _ ?_;clear H K;refine jR rfl rfl ?_;intro K H;refine jr 215 (.tmp 6) (.tmp 25) rfl (w.heap.size+2) 215 _ #[ω d,φ Q,ω st,ό,ω Z,ω X] rfl rfl (qb ae.o 1) ξ rfl (all_oneCell_toArray X8) ?_;refine⟨qi (((jt.refl (λb=>b=w.heap.size+2∨b=w.heap.size+3) W1).drewN 1).row (g:=w.heap.size+2) (ϑ rfl) _), ?_⟩;go_simp;refine H _ _ ?_;clear H K;refine zY rfl rfl ζ ?_;intro K H;refine jr 128 (.tmp 7) (.tmp 27) rfl (w.heap.size+3) 128 _ #[μ I,υ J,φ sq,ω Z,ω d] rfl rfl (qS (qb af.o 1) _ τ) ξ rfl (all_oneCell_toArray X8) ?_;refine⟨trivial, ?_⟩;go_simp;refine H _ _ ?_;clear H K;refine qA ?_;go_wp2;refine bodyPost_ret (v:= .tuple #[θ #[ω d,φ Q,ω st,ό,ω Z,ω X],θ #[μ I,υ J,φ sq,ω Z,ω d]]) (qbx results255 _ _ (w.heap.size+2) (w.heap.size+3) 215 128 #[ω d,φ Q,ω st,ό,ω Z,ω X] #[μ I,υ J,φ sq,ω Z,ω d] _ _ rfl rfl (qS (jY (qb ae.o 1) _) _ τ) (jY (qS (qb af.o 1) _ τ) _) underlying215 rfl ξ underlying128 rfl ξ) rfl ?_;exact⟨rfl,(EC _ _ _).to_more ((EC _ _ _).to_more (au.o.dr 1) (λk e=>by rw[e];exact A9 _ _)) (λk e=>by rw[e];exact A9 _ _)⟩
structure ItS where
 id:Int
 layer:Int
 key:Bool
 pk:Pk
structure LnS where
 room:Nat
 A:List ItS
 B:List (ItS×Bool)
 C:List (Int×List Int)
 W:List (Int×List Int)
 wanted:Bool
 cur:Int
 tgt:Int
 rw:RwS
 most:Int
 row:Int
 gone:Bool
def Vd (room:Nat) (most src sq st:Int):LnS:=⟨room,[],[],[],[],ύ,0,0,⟨src,sq,st,ύ,0,0⟩,most,0,ύ⟩
def yX (s:LnS) (x:ItS):LnS×Int×Bool:=if s.A.length<s.room then ({s with A:=s.A++[x]},0,ύ) else ({s with A:=s.A.tail++[x]},(s.A.head?.map (·.id)).getD 0,ό)
def xp (s:LnS) (x:ItS):LnS×Int×Bool×Int:=
 if (jj x.layer&&jJ x.pk)=ύ then (s,0,ύ,1) else if s.gone then (s,0,ύ,7) else if s.wanted=ύ then (s,0,ύ,5) else ((yX s x).1,(yX s x).2.1,(yX s x).2.2,0)
def xJ (cur tgt layer:Int) (key:Bool):Int×Int×Bool:=
 if layer=cur then (cur,0,ύ) else if layer=tgt then (if key then (layer,0,ό) else (cur,5,ύ)) else (cur,4,ύ)
def vC (s:LnS) (n:Int):Bool:=if n=1 then decide (0<s.A.length)&&decide (¬s.B.length=s.room) else if n=2 then decide (0<s.B.length) else if n=3 then decide (0<s.C.length) else ύ
def jf (s:LnS):LnS×Int×Int×Bool:=
 if vC s 1=ύ then (s,0,0,ύ) else
 match s.A with
 | []=>(s,0,0,ύ)
 | x::A=>({s with A:=A,cur:=(xJ s.cur s.tgt x.layer x.key).1,B:=if (xJ s.cur s.tgt x.layer x.key).2.1=0 then s.B++[(x,(xJ s.cur s.tgt x.layer x.key).2.2)] else s.B},x.id,(xJ s.cur s.tgt x.layer x.key).2.1,ό)
def kY (r:RwS) (p:Pk) (first:Bool):Pk:={p with sq:=r.sq,st:=(p.st+shL r p.st first)%4294967296,sc:=r.src}
def ul (r:RwS) (p:Pk) (first:Bool):RwS:=⟨r.src,(r.sq+1)%65536,r.st,ό,(p.st+shL r p.st first)%4294967296,shL r p.st first⟩
def NJ (s:LnS) (o:Int×List Int):LnS×Int×Bool:=if s.C.length<s.room then ({s with C:=s.C++[o]},0,ύ) else ({s with C:=s.C.tail++[o]},(s.C.head?.map (·.1)).getD 0,ό)
def qY (s:LnS):LnS×Int×Bool×Bool:=
 match s.B with
 | []=>(s,0,ύ,ύ)
 | (x,f)::B=>((NJ {s with B:=B,rw:=ul s.rw x.pk f} (x.id,pkB (kY s.rw x.pk f))).1,(NJ {s with B:=B,rw:=ul s.rw x.pk f} (x.id,pkB (kY s.rw x.pk f))).2.1,(NJ {s with B:=B,rw:=ul s.rw x.pk f} (x.id,pkB (kY s.rw x.pk f))).2.2,ό)
def V2 (s:LnS) (acc:Bool):Int×Bool×Bool:=if s.gone then (s.row,ό,ύ) else if acc then (0,ύ,ύ) else (s.row+1,s.row+1==s.most,s.row+1==s.most)
def qX (s:LnS) (acc:Bool):LnS×Int×Int×Bool:=
 match s.C with
 | []=>(s,0,0,ύ)
 | o::C=>
  if (V2 s acc).2.2 then ({s with A:=[],B:=[],C:=[],W:=if acc then s.W++[o] else s.W,row:=(V2 s acc).1,gone:=(V2 s acc).2.1},o.1,7,ό)
  else ({s with C:=if acc then C else o::C,W:=if acc then s.W++[o] else s.W,row:=(V2 s acc).1,gone:=(V2 s acc).2.1},o.1,if acc then 1 else 0,ό)
def jO (s:LnS) (n:Int):LnS×Int:=
 if jj n=ύ then (s,1) else if s.gone then (s,7) else ({s with wanted:=ό,cur:=if s.wanted then s.cur else -1,tgt:=n},0)
def zb (p:α->β->Prop):List α->List β->Prop
 | [],[]=>True
 | a::l,b::m=>p a b/\zb p l m
 | _,_=>False
section
variable {α β:Type} {p p':α->β->Prop}
def zb.len: ∀{l:List α} {m:List β},zb p l m->l.length=m.length
 | [],[],_=>rfl
 | _::_,_::_,h=>by simp[zb.len h.2]
 | [],_::_,h=>h.elim
 | _::_,[],h=>h.elim
def zb.mono (k: ∀a b,p a b->p' a b): ∀{l:List α} {m:List β},zb p l m->zb p' l m
 | [],[],_=>trivial
 | _::_,_::_,h=>⟨k _ _ h.1,zb.mono k h.2⟩
 | [],_::_,h=>h.elim
 | _::_,[],h=>h.elim
def zb.snoc: ∀{l:List α} {m:List β} {a:α} {b:β},zb p l m->p a b->zb p (l++[a]) (m++[b])
 | [],[],_,_,_,k=>⟨k,trivial⟩
 | _::_,_::_,_,_,h,k=>⟨h.1,zb.snoc h.2 k⟩
 | [],_::_,_,_,h,_=>h.elim
 | _::_,[],_,_,h,_=>h.elim
def zb.uncons {l:List α} {b:β} {m:List β} (h:zb p l (b::m)): ∃a l',l=a::l'/\p a b/\zb p l' m:=by
 cases l with
 | nil=>exact h.elim
 | cons a l'=>exact⟨a,l',rfl,h.1,h.2⟩
def zb.nil_r {l:List α} (h:zb p l ([]:List β)):l=[]:=by
 cases l with
 | nil=>rfl
 | cons a l'=>exact h.elim
def zb.mem {l:List α} {m:List β} (h:zb p l m): ∀a∈l,∃b∈m,p a b:=by
 induction l generalizing m with
 | nil=>intro a d;simp at d
 | cons c l ih=>
  cases m with
  | nil=>exact h.elim
  | cons b m=>
   intro a d;rcases Ϟ.1 d with rfl | d
   ·exact⟨b,η,h.1⟩
   ·obtain⟨G,H,I⟩:=ih h.2 a d;exact⟨G,by simp[H],I⟩
end
def itC (x:ItS) (vs ve vp:Value):List Value:=[.int .i64 x.id,.int .i64 x.layer,.bool x.key,.bool x.pk.mr,.int .u8 x.pk.ty,.int .u16 x.pk.sq,.int .u32 x.pk.st,.int .u32 x.pk.sc,vs,.bool x.pk.has,.int .u16 x.pk.pr,ve,vp]
def RIt:qL ItS:=λw cs x=> ∃vs ve vp,cs=itC x vs ve vp/\PkS w vs ve vp x.pk/\uf x.pk/\jJ x.pk=ό
def RCh:qL (ItS×Bool):=λw cs x=> ∃vs ve vp,cs=itC x.1 vs ve vp++[.bool x.2]/\PkS w vs ve vp x.1.pk/\uf x.1.pk/\jJ x.1.pk=ό
def ROu:qL (Int×List Int):=λw cs o=> ∃v,cs=[.int .i64 o.1,v]/\SlI .u8 w v o.2/\Byt o.2/\o.2.length<=200
def Ff:QQ ROu:=λ_ _ _ _ m ⟨v,d,G,H⟩=>⟨v,d,G.keep m,H⟩
def jw.chosen {x:ItS} (f:Bool) (h:jw RIt D w c x):jw RCh D w (c++[μ f]) (x,f):=λw' a=>by
 obtain⟨J,I,vp,rfl,d,G,H⟩:=h w' a;exact⟨J,I,vp,rfl,d,G,H⟩
def RgR (n tr te:Nat) (R:qL α) (D:Nat->Prop) (w:World) (r a room:Nat) (l:List α):Prop:=
 ∃f q ci co cd cg css,qN n tr te w r a room f q ci co cd cg css/\zb (jw R D w) q l
section
variable {α:Type} {n tr te:Nat} {R:qL α} {D D':Nat->Prop} {w w':World} {r a room:Nat} {l:List α}
def RgR.fit (h:RgR n tr te R D w r a room l):l.length<=room/\1<=room/\room<=8/\r<w.heap.size/\a<w.heap.size:=by
 obtain⟨f,q,J,N,H,I,css,d,G⟩:=h;have:=d.fits;have:=G.len;have:=d.pos;exact⟨τ,τ,τ,qn d.ring,qn d.row⟩
def RgR.step (h:RgR n tr te R D w r a room l) (k:jt S w w') (aa: ¬S r) (Y: ¬S a) (O: ∀b,S b->D b) (U: ∀b,D' b->D b∨w'.heap.size<=b):RgR n tr te R D' w' r a room l:=by
 obtain⟨f,q,H,I,d,G,css,J,N⟩:=h;exact⟨f,q,H,I,d,G,css,J.away k aa Y,N.mono λc y ab=>(ab.step (k.mono O)).other U⟩
end
def Γj (x:ItS) (a:Option Addr) (b:Nat) (c:Option Addr) (d:Nat) (e:Option Addr) (f:Nat):Mm:=.o
instance (x:ItS) (a:Option Addr) (b:Nat) (c:Option Addr) (d:Nat) (e:Option Addr) (f:Nat):CoeDep Mm (Γj x a b c d e f) (List Value):=⟨[ι x.id,ι x.layer,μ x.key,μ x.pk.mr,υ x.pk.ty,φ x.pk.sq,ω x.pk.st,ω x.pk.sc,δ a x.pk.ss.length b,μ x.pk.has,φ x.pk.pr,δ c x.pk.ex.length d,δ e x.pk.pl.length f]⟩
instance (x:ItS) (a:Option Addr) (b:Nat) (c:Option Addr) (d:Nat) (e:Option Addr) (f:Nat):CoeDep Mm (Γj x a b c d e f) (Array Value):=⟨((Γj x a b c d e f):List Value).toArray⟩
instance (x:ItS) (a:Option Addr) (b:Nat) (c:Option Addr) (d:Nat) (e:Option Addr) (f:Nat):CoeDep Mm (Γj x a b c d e f) Value:=⟨θ (Γj x a b c d e f)⟩
def Γk (x:ItS) (a:Option Addr) (b:Nat) (c:Option Addr) (d:Nat) (e:Option Addr) (f:Nat) (g:Bool):Mm:=.o
instance (x:ItS) (a:Option Addr) (b:Nat) (c:Option Addr) (d:Nat) (e:Option Addr) (f:Nat) (g:Bool):CoeDep Mm (Γk x a b c d e f g) (List Value):=⟨[ι x.id,ι x.layer,μ x.key,μ x.pk.mr,υ x.pk.ty,φ x.pk.sq,ω x.pk.st,ω x.pk.sc,δ a x.pk.ss.length b,μ x.pk.has,φ x.pk.pr,δ c x.pk.ex.length d,δ e x.pk.pl.length f,μ g]⟩
instance (x:ItS) (a:Option Addr) (b:Nat) (c:Option Addr) (d:Nat) (e:Option Addr) (f:Nat) (g:Bool):CoeDep Mm (Γk x a b c d e f g) (Array Value):=⟨((Γk x a b c d e f g):List Value).toArray⟩
instance (x:ItS) (a:Option Addr) (b:Nat) (c:Option Addr) (d:Nat) (e:Option Addr) (f:Nat) (g:Bool):CoeDep Mm (Γk x a b c d e f g) Value:=⟨θ (Γk x a b c d e f g)⟩
def wQ (v:Value) (l:List Int) (w:World) (h:SlI .u8 w v l) (al:l.length<=1000000):
  Calls prog 68 #[v] w λe w'=>(∃v',e= .returned v'/\w'.ownsRow w.heap.size 5 1 v' l.length (l.map (Value.int .u8)))/\ql w w':=by
 obtain⟨aj,hi,ag,ah,ai⟩:=info_parts (P:=prog) (e:=5) (z:= υ 0) (size:=1) (bytes:=1) ξ;have G:=κ h;obtain⟨ak,cap,rfl,H,I,J,N,d⟩:=h;cases ak with
 | none=>
  obtain rfl:cap=0:=d rfl;obtain rfl:l=[]:=Ϡ τ;clear G H I J N d;have af:=λw=>Lib.run_eql_slice_nil (P:=prog) w 24 5 ϋ 0 0 0 0 underlying24
  go_enter func68,ntmps68
  go_wp2;go_ret;exact⟨⟨_,rfl,World.ownsRow_nil w _ _ _⟩,ql.refl _⟩
 | some ad=>
  clear H I J N d;have Y:(w.alloc (.cells #[] 5)).ownsRow w.heap.size 5 1 (δ (ϊ ⟨w.heap.size,0,ϋ⟩) 0 0) ([]:List Int).length (([]:List Int).map (Value.int .u8)):=World.ownsRow_lit (e:=5) (size:=1) (base:=w.heap.size) w #[] 0 (ϔ _) (by unfold maxLen;omega) rfl;have ab:=κ Y;clear Y;have af:=λw=>Lib.run_eql_slice_nil (P:=prog) w 24 5 (ϊ ad) l.length cap 0 0 underlying24
  go_enter func68,ntmps68
  go_wp2_with (at_builtin;refine xr _ rfl (.tmp 5) (.tmp 6) 24 rfl w.heap.size 5 aj (υ 0) 1 underlying24 hi ag ah ai rfl _ .u8 [] rfl ab.o _ l rfl (G.o.keep X6) (by simp;omega) ζ (ql.alloc w _).size ?_;intro am w2 U O;have ac:=κ U;have aa:Hid (jt (λb=>(δ (ϊ ⟨w.heap.size,0,ϋ⟩) 0 0).ownBlock=ϊ b) (w.alloc (.cells #[] 5)) w2):=κ (jt.of_grown O);clear U O)
  go_ret;refine⟨⟨_,rfl,by simpa using ac.o⟩, ?_⟩;exact((jt.of_more (S:=λb=>b=w.heap.size) (ql.alloc w _)).trans (aa.o.mono λb ae=>by injection ae with e;exact e.symm)).to_more (ql.refl _) (λk e=>by rw[e];exact ϔ _)
def Ad (v:Value) (l:List Int) (w:World) (h:SlI .u32 w v l) (al:l.length<=1000000):
  Calls prog 249 #[v] w λe w'=>(∃v',e= .returned v'/\w'.ownsRow w.heap.size 69 1 v' l.length (l.map (Value.int .u32)))/\ql w w':=by
 obtain⟨aj,hi,ag,ah,ai⟩:=info_parts (P:=prog) (e:=69) (z:= ω 0) (size:=1) (bytes:=4) ξ;have G:=κ h;obtain⟨ak,cap,rfl,H,I,J,N,d⟩:=h;cases ak with
 | none=>
  obtain rfl:cap=0:=d rfl;obtain rfl:l=[]:=Ϡ τ;clear G H I J N d;have af:=λw=>Lib.run_eql_slice_nil (P:=prog) w 131 69 ϋ 0 0 0 0 underlying131
  go_enter func249,ntmps249
  go_wp2;go_ret;exact⟨⟨_,rfl,World.ownsRow_nil w _ _ _⟩,ql.refl _⟩
 | some ad=>
  clear H I J N d;have Y:(w.alloc (.cells #[] 69)).ownsRow w.heap.size 69 1 (δ (ϊ ⟨w.heap.size,0,ϋ⟩) 0 0) ([]:List Int).length (([]:List Int).map (Value.int .u32)):=World.ownsRow_lit (e:=69) (size:=1) (base:=w.heap.size) w #[] 0 (ϔ _) (by unfold maxLen;omega) rfl;have ab:=κ Y;clear Y;have af:=λw=>Lib.run_eql_slice_nil (P:=prog) w 131 69 (ϊ ad) l.length cap 0 0 underlying131
  go_enter func249,ntmps249
  go_wp2_with (at_builtin;refine xr _ rfl (.tmp 5) (.tmp 6) 131 rfl w.heap.size 69 aj (ω 0) 4 underlying131 hi ag ah ai rfl _ .u32 [] rfl ab.o _ l rfl (G.o.keep X6) (by simp;omega) ζ (ql.alloc w _).size ?_;intro am w2 U O;have ac:=κ U;have aa:Hid (jt (λb=>(δ (ϊ ⟨w.heap.size,0,ϋ⟩) 0 0).ownBlock=ϊ b) (w.alloc (.cells #[] 69)) w2):=κ (jt.of_grown O);clear U O)
  go_ret;refine⟨⟨_,rfl,by simpa using ac.o⟩, ?_⟩;exact((jt.of_more (S:=λb=>b=w.heap.size) (ql.alloc w _)).trans (aa.o.mono λb ae=>by injection ae with e;exact e.symm)).to_more (ql.refl _) (λk e=>by rw[e];exact ϔ _)
end Go.Proofs.YtmgaiiffmheabaaGreatDoor
