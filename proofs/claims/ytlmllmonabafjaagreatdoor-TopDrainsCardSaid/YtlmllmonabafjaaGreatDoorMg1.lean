/- Contracts and plain laws. -/
import Derived.Test.YtlmllmonabafjaaGreatDoorMg0
import Derived.Handy
import Derived.Test.YtlmllmonabafjaaGreatDoorRows
import Derived.Maps.AppendAt
import Derived.Lib.LazyBuf
import Derived.ProofKit
import Derived.OpenShut
import Derived.Lib.SmallJoins
import Derived.Deep.Slices
import Derived.Deep.Fields
namespace Go.Proofs.YtlmllmonabafjaaGreatDoor
open Go.Value renaming bool->μ,slice->δ,pointer->π,agg->θ
open Go.IntKind renaming i64->ι,u8->υ,u16->φ,u32->ω,i32->χ,u64->ψ
set_option linter.unusedSimpArgs false
set_option linter.unusedVariables false
open Go.RowKit
set_option maxRecDepth 100000
theorem τ {P:Prop} (h:P:=by omega):P:=h
theorem ξ {P:Prop} (h:P:=by kernel_rfl):P:=h
theorem ζ {P:Prop} (h:P:=by decide):P:=h
theorem η {P:Prop} (h:P:=by simp):P:=h
theorem κ {p:Prop} (h:p):RowKit.Hid p:=h
theorem ν {α : Sort _} (a : α) : ∃ x, a = x := ⟨_, rfl⟩
theorem ρ {w w' : World} (h : qa w w' := by repeat (first | exact qa.refl _ | assumption | refine qa.dr ?_ _ | refine qa.al ?_ _ | refine qa.st ?_ (by simp) _)) : qa w w' := h
theorem σ {S : Nat → Prop} {w w' : World} (h : qg S w w' := by repeat (first | exact qg.refl _ _ | assumption | refine qg.drewN ?_ _ | refine qg.set ?_ (by first | rfl | exact Or.inl rfl | exact Or.inr rfl) _)) : qg S w w' := h
theorem _root_.Go.RowKit.Hid.o {p : Prop} (h : RowKit.Hid p) : p := h
section
variable {w:World} {b t:Nat} {c:List Value} {A B C D E F G H I J K L M N O P Q R S U V:Value}
theorem β0 (h:w.heap[b]?=some (.cells (A::c).toArray t (0,0))):w.cell? ⟨b,0,none⟩=some A:=qb h 0 η
theorem β1 (h:w.heap[b]?=some (.cells (A::B::c).toArray t (0,0))):w.cell? ⟨b,1,none⟩=some B:=qb h 1 η
theorem β2 (h:w.heap[b]?=some (.cells (A::B::C::c).toArray t (0,0))):w.cell? ⟨b,2,none⟩=some C:=qb h 2 η
theorem β3 (h:w.heap[b]?=some (.cells (A::B::C::D::c).toArray t (0,0))):w.cell? ⟨b,3,none⟩=some D:=qb h 3 η
theorem β4 (h:w.heap[b]?=some (.cells (A::B::C::D::E::c).toArray t (0,0))):w.cell? ⟨b,4,none⟩=some E:=qb h 4 η
theorem β5 (h:w.heap[b]?=some (.cells (A::B::C::D::E::F::c).toArray t (0,0))):w.cell? ⟨b,5,none⟩=some F:=qb h 5 η
theorem β6 (h:w.heap[b]?=some (.cells (A::B::C::D::E::F::G::c).toArray t (0,0))):w.cell? ⟨b,6,none⟩=some G:=qb h 6 η
theorem β7 (h:w.heap[b]?=some (.cells (A::B::C::D::E::F::G::H::c).toArray t (0,0))):w.cell? ⟨b,7,none⟩=some H:=qb h 7 η
theorem β8 (h:w.heap[b]?=some (.cells (A::B::C::D::E::F::G::H::I::c).toArray t (0,0))):w.cell? ⟨b,8,none⟩=some I:=qb h 8 η
theorem β9 (h:w.heap[b]?=some (.cells (A::B::C::D::E::F::G::H::I::J::c).toArray t (0,0))):w.cell? ⟨b,9,none⟩=some J:=qb h 9 η
theorem β10 (h:w.heap[b]?=some (.cells (A::B::C::D::E::F::G::H::I::J::K::c).toArray t (0,0))):w.cell? ⟨b,10,none⟩=some K:=qb h 10 η
theorem β11 (h:w.heap[b]?=some (.cells (A::B::C::D::E::F::G::H::I::J::K::L::c).toArray t (0,0))):w.cell? ⟨b,11,none⟩=some L:=qb h 11 η
theorem β12 (h:w.heap[b]?=some (.cells (A::B::C::D::E::F::G::H::I::J::K::L::M::c).toArray t (0,0))):w.cell? ⟨b,12,none⟩=some M:=qb h 12 η
theorem β13 (h:w.heap[b]?=some (.cells (A::B::C::D::E::F::G::H::I::J::K::L::M::N::c).toArray t (0,0))):w.cell? ⟨b,13,none⟩=some N:=qb h 13 η
theorem β14 (h:w.heap[b]?=some (.cells (A::B::C::D::E::F::G::H::I::J::K::L::M::N::O::c).toArray t (0,0))):w.cell? ⟨b,14,none⟩=some O:=qb h 14 η
theorem β15 (h:w.heap[b]?=some (.cells (A::B::C::D::E::F::G::H::I::J::K::L::M::N::O::P::c).toArray t (0,0))):w.cell? ⟨b,15,none⟩=some P:=qb h 15 η
theorem β16 (h:w.heap[b]?=some (.cells (A::B::C::D::E::F::G::H::I::J::K::L::M::N::O::P::Q::c).toArray t (0,0))):w.cell? ⟨b,16,none⟩=some Q:=qb h 16 η
theorem β17 (h:w.heap[b]?=some (.cells (A::B::C::D::E::F::G::H::I::J::K::L::M::N::O::P::Q::R::c).toArray t (0,0))):w.cell? ⟨b,17,none⟩=some R:=qb h 17 η
theorem β18 (h:w.heap[b]?=some (.cells (A::B::C::D::E::F::G::H::I::J::K::L::M::N::O::P::Q::R::S::c).toArray t (0,0))):w.cell? ⟨b,18,none⟩=some S:=qb h 18 η
theorem β19 (h:w.heap[b]?=some (.cells (A::B::C::D::E::F::G::H::I::J::K::L::M::N::O::P::Q::R::S::U::c).toArray t (0,0))):w.cell? ⟨b,19,none⟩=some U:=qb h 19 η
theorem β20 (h:w.heap[b]?=some (.cells (A::B::C::D::E::F::G::H::I::J::K::L::M::N::O::P::Q::R::S::U::V::c).toArray t (0,0))):w.cell? ⟨b,20,none⟩=some V:=qb h 20 η
end
instance:CoeFun IntKind (λ_=>Int->Value):=⟨.int⟩
instance:Coe Bool Value:=⟨.bool⟩
instance:Coe Unit Value:=⟨λ_=>.slice none 0 0⟩
inductive Mm | o
def γ (b:Nat):Mm:=.o
instance (b:Nat):CoeDep Mm (γ b) Value:=⟨.pointer (some ⟨b,0,none⟩)⟩
def Γa:Mm:=.o
instance:CoeDep Mm Γa (List Value):=⟨[ι 0,ι 0,μ false,μ false,υ 0,φ 0,ω 0,ω 0,δ none 0 0,μ false,φ 0,δ none 0 0,δ none 0 0]⟩
instance:CoeDep Mm Γa (Array Value):=⟨(Γa:List Value).toArray⟩
instance:CoeDep Mm Γa Value:=⟨θ Γa⟩
def Γs:Mm:=.o
instance:CoeDep Mm Γs (List Value):=⟨[ι 0,δ none 0 0]⟩
instance:CoeDep Mm Γs (Array Value):=⟨(Γs:List Value).toArray⟩
instance:CoeDep Mm Γs Value:=⟨θ Γs⟩
def Γb:Mm:=.o
instance:CoeDep Mm Γb (List Value):=⟨[ι 0,ι 0,μ false,μ false,υ 0,φ 0,ω 0,ω 0,δ none 0 0,μ false,φ 0,δ none 0 0,δ none 0 0,μ false]⟩
instance:CoeDep Mm Γb (Array Value):=⟨(Γb:List Value).toArray⟩
instance:CoeDep Mm Γb Value:=⟨θ Γb⟩
def Γc:Mm:=.o
instance:CoeDep Mm Γc (List Value):=⟨[μ false,υ 0,φ 0,ω 0,ω 0,δ none 0 0,μ false,φ 0,δ none 0 0,δ none 0 0]⟩
instance:CoeDep Mm Γc (Array Value):=⟨(Γc:List Value).toArray⟩
instance:CoeDep Mm Γc Value:=⟨θ Γc⟩
def Γd:Mm:=.o
instance:CoeDep Mm Γd (List Value):=⟨[μ false,ω 0,ω 0,ω 0,ω 0,ω 0,ω 0,δ none 0 0]⟩
instance:CoeDep Mm Γd (Array Value):=⟨(Γd:List Value).toArray⟩
instance:CoeDep Mm Γd Value:=⟨θ Γd⟩
def Γe:Mm:=.o
instance:CoeDep Mm Γe (List Value):=⟨[ω 0,υ 0,χ 0,ω 0,ω 0,ω 0,ω 0]⟩
instance:CoeDep Mm Γe (Array Value):=⟨(Γe:List Value).toArray⟩
instance:CoeDep Mm Γe Value:=⟨θ Γe⟩
def Γf:Mm:=.o
instance:CoeDep Mm Γf (List Value):=⟨[ι 0,μ false,ω 0,ω 0,ω 0,ω 0,ω 0,ω 0,δ none 0 0,ι 0,ω 0,ω 0,δ none 0 0,δ none 0 0,υ 0,υ 0,δ none 0 0]⟩
instance:CoeDep Mm Γf (Array Value):=⟨(Γf:List Value).toArray⟩
instance:CoeDep Mm Γf Value:=⟨θ Γf⟩
def Γg:Mm:=.o
instance:CoeDep Mm Γg (List Value):=⟨[ι 0,ω 0,ω 0,δ none 0 0,δ none 0 0]⟩
instance:CoeDep Mm Γg (Array Value):=⟨(Γg:List Value).toArray⟩
instance:CoeDep Mm Γg Value:=⟨θ Γg⟩
def Qo:Nat->Nat->List Nat->List (Nat×Bool)
 | _,0,_=>[]
 | i,k+1,L=>(i,L.elem i)::Qo (i+1) k L
theorem Qn {P:Program} {id:Nat} {Q:Exit->Act->World->Prop} {a:Act} {w:World} {l:List Oper} (w0:World) (T k:Nat) (L:List Nat) {n:List (Nat×Bool)} (h:zZ P l T (λw'=> ∃x:qp w0,w'=x.w') (Q .normal) n a (w.drewN 1)) (e:Qo 0 k L=n:=by simp[Qo];exact rfl) (hm:P.follows .mixedOrders=true:=by kernel_rfl) (hB:(Region.noSelect l.toArray&&JQ .any l.toArray T n (Array.replicate l.length false)&&decide (n.length=l.length)&&n.all λx=>decide (x.1<l.length))=true:=by kernel_rfl):(Code.region id l.toArray true).wp P Q a w:=xY w0 T n hm hB h
theorem QN {P:Program} {id:Nat} {Q:Exit->Act->World->Prop} {a:Act} {w:World} {l:List Oper} (S:Nat->Prop) (w0:World) (T k:Nat) (L:List Nat) {n:List (Nat×Bool)} (h:zZ P l T (λw'=> ∃x:qu S w0,w'=x.w') (Q .normal) n a (w.drewN 1)) (e:Qo 0 k L=n:=by simp[Qo];exact rfl) (hm:P.follows .mixedOrders=true:=by kernel_rfl) (hB:(Region.noSelect l.toArray&&JQ .any l.toArray T n (Array.replicate l.length false)&&decide (n.length=l.length)&&n.all λx=>decide (x.1<l.length))=true:=by kernel_rfl):(Code.region id l.toArray true).wp P Q a w:=zo S w0 T n hm hB h
theorem Ql {P Q:Prop} (k:Q) (h:(Unit->Q)->P:=by intro k;refine jJ rfl rfl ?_;intro K hK;unfold jl;go_simp;revert K hK;exact k ()):P:=h (λ_=>k)
theorem Qe {P Q:Prop} (k:Q) (h:(Unit->Q)->P:=by intro k;refine yc rfl rfl (by decide) ?_;intro K hK;unfold jl;go_simp;revert K hK;exact k ()):P:=h (λ_=>k)
theorem Qq1 {P Q:Prop} (k:Q) (h:(Unit->Q)->P:=by intro k;(refine qD rfl rfl (qj ρ) ?_;intro K hK;go_big_quiet_op;go_big_quiet_on);exact k ()):P:=h (λ_=>k)
theorem Qq2 {P Q:Prop} (k:Q) (h:(Unit->Q)->P:=by intro k;(iterate 2 (refine qD rfl rfl (qj ρ) ?_;intro K hK;go_big_quiet_op;go_big_quiet_on));exact k ()):P:=h (λ_=>k)
theorem Qq3 {P Q:Prop} (k:Q) (h:(Unit->Q)->P:=by intro k;(iterate 3 (refine qD rfl rfl (qj ρ) ?_;intro K hK;go_big_quiet_op;go_big_quiet_on));exact k ()):P:=h (λ_=>k)
theorem Qq5 {P Q:Prop} (k:Q) (h:(Unit->Q)->P:=by intro k;(iterate 5 (refine qD rfl rfl (qj ρ) ?_;intro K hK;go_big_quiet_op;go_big_quiet_on));exact k ()):P:=h (λ_=>k)
theorem Qq6 {P Q:Prop} (k:Q) (h:(Unit->Q)->P:=by intro k;(iterate 6 (refine qD rfl rfl (qj ρ) ?_;intro K hK;go_big_quiet_op;go_big_quiet_on));exact k ()):P:=h (λ_=>k)
theorem Qq7 {P Q:Prop} (k:Q) (h:(Unit->Q)->P:=by intro k;(iterate 7 (refine qD rfl rfl (qj ρ) ?_;intro K hK;go_big_quiet_op;go_big_quiet_on));exact k ()):P:=h (λ_=>k)
theorem Qq8 {P Q:Prop} (k:Q) (h:(Unit->Q)->P:=by intro k;(iterate 8 (refine qD rfl rfl (qj ρ) ?_;intro K hK;go_big_quiet_op;go_big_quiet_on));exact k ()):P:=h (λ_=>k)
theorem Qq9 {P Q:Prop} (k:Q) (h:(Unit->Q)->P:=by intro k;(iterate 9 (refine qD rfl rfl (qj ρ) ?_;intro K hK;go_big_quiet_op;go_big_quiet_on));exact k ()):P:=h (λ_=>k)
theorem Ml {P Q:Prop} (k:Q) (h:(Unit->Q)->P:=by intro k;(iterate 10 (refine qD rfl rfl (qj ρ) ?_;intro K hK;go_big_quiet_op;go_big_quiet_on));exact k ()):P:=h (λ_=>k)
theorem EF {P Q:Prop} (k:Q) (h:(Unit->Q)->P:=by intro k;(iterate 12 (refine qD rfl rfl (qj ρ) ?_;intro K hK;go_big_quiet_op;go_big_quiet_on));exact k ()):P:=h (λ_=>k)
theorem OA {P Q:Prop} (k:Q) (h:(Unit->Q)->P:=by intro k;(iterate 13 (refine qD rfl rfl (qj ρ) ?_;intro K hK;go_big_quiet_op;go_big_quiet_on));exact k ()):P:=h (λ_=>k)
theorem IA {P Q:Prop} (k:Q) (h:(Unit->Q)->P:=by intro k;(iterate 19 (refine qD rfl rfl (qj ρ) ?_;intro K hK;go_big_quiet_op;go_big_quiet_on));exact k ()):P:=h (λ_=>k)
theorem Oz {P Q:Prop} (k:Q) (h:(Unit->Q)->P:=by intro k;(iterate 20 (refine qD rfl rfl (qj ρ) ?_;intro K hK;go_big_quiet_op;go_big_quiet_on));exact k ()):P:=h (λ_=>k)
theorem Mk {P Q:Prop} (k:Q) (h:(Unit->Q)->P:=by intro k;(iterate 21 (refine qD rfl rfl (qj ρ) ?_;intro K hK;go_big_quiet_op;go_big_quiet_on));exact k ()):P:=h (λ_=>k)
theorem Qs1 {P Q:Prop} (k:Q) (h:(Unit->Q)->P:=by intro k;(refine qD rfl rfl (qi σ) ?_;intro K hK;go_big_quiet_op;go_big_quiet_on);exact k ()):P:=h (λ_=>k)
theorem Qs2 {P Q:Prop} (k:Q) (h:(Unit->Q)->P:=by intro k;(iterate 2 (refine qD rfl rfl (qi σ) ?_;intro K hK;go_big_quiet_op;go_big_quiet_on));exact k ()):P:=h (λ_=>k)
theorem Qs3 {P Q:Prop} (k:Q) (h:(Unit->Q)->P:=by intro k;(iterate 3 (refine qD rfl rfl (qi σ) ?_;intro K hK;go_big_quiet_op;go_big_quiet_on));exact k ()):P:=h (λ_=>k)
theorem Qs4 {P Q:Prop} (k:Q) (h:(Unit->Q)->P:=by intro k;(iterate 4 (refine qD rfl rfl (qi σ) ?_;intro K hK;go_big_quiet_op;go_big_quiet_on));exact k ()):P:=h (λ_=>k)
theorem Qs5 {P Q:Prop} (k:Q) (h:(Unit->Q)->P:=by intro k;(iterate 5 (refine qD rfl rfl (qi σ) ?_;intro K hK;go_big_quiet_op;go_big_quiet_on));exact k ()):P:=h (λ_=>k)
theorem Qs6 {P Q:Prop} (k:Q) (h:(Unit->Q)->P:=by intro k;(iterate 6 (refine qD rfl rfl (qi σ) ?_;intro K hK;go_big_quiet_op;go_big_quiet_on));exact k ()):P:=h (λ_=>k)
theorem Qs7 {P Q:Prop} (k:Q) (h:(Unit->Q)->P:=by intro k;(iterate 7 (refine qD rfl rfl (qi σ) ?_;intro K hK;go_big_quiet_op;go_big_quiet_on));exact k ()):P:=h (λ_=>k)
theorem Qs8 {P Q:Prop} (k:Q) (h:(Unit->Q)->P:=by intro k;(iterate 8 (refine qD rfl rfl (qi σ) ?_;intro K hK;go_big_quiet_op;go_big_quiet_on));exact k ()):P:=h (λ_=>k)
theorem Qs9 {P Q:Prop} (k:Q) (h:(Unit->Q)->P:=by intro k;(iterate 9 (refine qD rfl rfl (qi σ) ?_;intro K hK;go_big_quiet_op;go_big_quiet_on));exact k ()):P:=h (λ_=>k)
theorem ED {P Q:Prop} (k:Q) (h:(Unit->Q)->P:=by intro k;(iterate 10 (refine qD rfl rfl (qi σ) ?_;intro K hK;go_big_quiet_op;go_big_quiet_on));exact k ()):P:=h (λ_=>k)
theorem Mj {P Q:Prop} (k:Q) (h:(Unit->Q)->P:=by intro k;(iterate 12 (refine qD rfl rfl (qi σ) ?_;intro K hK;go_big_quiet_op;go_big_quiet_on));exact k ()):P:=h (λ_=>k)
theorem Oy {P Q:Prop} (k:Q) (h:(Unit->Q)->P:=by intro k;(iterate 13 (refine qD rfl rfl (qi σ) ?_;intro K hK;go_big_quiet_op;go_big_quiet_on));exact k ()):P:=h (λ_=>k)
theorem EC {P Q:Prop} (k:Q) (h:(Unit->Q)->P:=by intro k;(iterate 14 (refine qD rfl rfl (qi σ) ?_;intro K hK;go_big_quiet_op;go_big_quiet_on));exact k ()):P:=h (λ_=>k)
theorem Ox {P Q:Prop} (k:Q) (h:(Unit->Q)->P:=by intro k;(iterate 16 (refine qD rfl rfl (qi σ) ?_;intro K hK;go_big_quiet_op;go_big_quiet_on));exact k ()):P:=h (λ_=>k)
theorem Ow {P Q:Prop} (k:Q) (h:(Unit->Q)->P:=by intro k;(iterate 17 (refine qD rfl rfl (qi σ) ?_;intro K hK;go_big_quiet_op;go_big_quiet_on));exact k ()):P:=h (λ_=>k)
theorem Ov {P Q:Prop} (k:Q) (h:(Unit->Q)->P:=by intro k;(iterate 19 (refine qD rfl rfl (qi σ) ?_;intro K hK;go_big_quiet_op;go_big_quiet_on));exact k ()):P:=h (λ_=>k)
def Ν2:Mm:=.o
instance:CoeDep Mm Ν2 Nat:=⟨2⟩
def Ν13:Mm:=.o
instance:CoeDep Mm Ν13 Nat:=⟨13⟩
def Ν14:Mm:=.o
instance:CoeDep Mm Ν14 Nat:=⟨14⟩
def Ν53:Mm:=.o
instance:CoeDep Mm Ν53 Nat:=⟨53⟩
def Ν56:Mm:=.o
instance:CoeDep Mm Ν56 Nat:=⟨56⟩
def Ν253:Mm:=.o
instance:CoeDep Mm Ν253 Nat:=⟨253⟩
def Ν255:Mm:=.o
instance:CoeDep Mm Ν255 Nat:=⟨255⟩
def Ν325:Mm:=.o
instance:CoeDep Mm Ν325 Nat:=⟨325⟩
def Ν327:Mm:=.o
instance:CoeDep Mm Ν327 Nat:=⟨327⟩
def Ν328:Mm:=.o
instance:CoeDep Mm Ν328 Nat:=⟨328⟩
def Ν330:Mm:=.o
instance:CoeDep Mm Ν330 Nat:=⟨330⟩
def Ν332:Mm:=.o
instance:CoeDep Mm Ν332 Nat:=⟨332⟩
section
open _root_.Go.Proofs.Tryz
set_option maxHeartbeats 8000000
theorem ZY (a s:Int) (h:May a s) (w:World):
  Calls prog 285 #[ι a,ι s] w λe w'=>e= .returned (μ true)/\w'=w:=by
 obtain⟨d,G,H,I⟩:=h
 go_enter func285,ntmps285
 go_wp2;go_ret;exact⟨rfl,rfl⟩
theorem Cx (a s:Int) (G:I64 a) (H:I64 s) (h: ¬May a s) (w:World):
  Calls prog 285 #[ι a,ι s] w λe w'=>e= .returned (μ false)/\w'=w:=by
 obtain⟨I,J⟩:=G;obtain⟨N,O⟩:=H;have d:=κ h;clear h
 go_enter func285,ntmps285
 go_wp2
 all_goals
  go_ret;have h:=d.o;unfold May at h;exact⟨jf (by first | rfl | (simp;omega)),rfl⟩
theorem VE (s:Int) (d:0<=s) (G:s<=64) (w:World):
  Calls prog 286 #[ι s] w λe w'=>e= .returned (ψ (two s-1))/\w'=w:=by
 go_enter func286,ntmps286
 go_wp2;go_ret;exact⟨xU (Ft s d G),rfl⟩
theorem QT (n:Int) (a s:Int) (G:U64 n) (h:May a s) (w:World):
  Calls prog 254 #[ψ n,ι a,ι s] w λe w'=>e= .returned (ψ (fld n a s))/\ ∃k,w'=w.drewN k:=by
 have I:=ZY a s h;have d:=FT n a s G h;obtain⟨J,N,O,U⟩:=h;obtain⟨Y,n2⟩:=G;have H:=κ d;clear d
 go_enter func254,ntmps254
 go_wp2_with (go_at_call 285;refine(I _).mono ?_;rintro e w' ⟨rfl,rfl⟩)
 go_quiet ((go_at_call 286;exact Calls.quiet_of_same (VE s τ τ _)))
 go_wp2;go_ret;exact⟨xU H.o,_,rfl⟩
theorem Hq (n v:Int) (a s:Int) (G:U64 n) (J:U64 v) (h:May a s) (w:World):
  Calls prog 278 #[ψ n,ι a,ι s,ψ v] w λe w'=>e= .returned (ψ (lay n a s v))/\ ∃k,w'=w.drewN k:=by
 have I:=ZY a s h;have d:=CC n a s v G J h;obtain⟨N,O,U,Y⟩:=h;obtain⟨aa,n2⟩:=G;have H:=κ d;clear d
 go_enter func278,ntmps278
 go_wp2_with (first | (go_at_call 285;refine(I _).mono ?_;rintro e w' ⟨rfl,rfl⟩) | (go_at_call 286;refine(VE _ τ τ _).mono ?_;rintro e w' ⟨rfl,rfl⟩))
 go_ret;exact⟨xU H.o,0,rfl⟩
theorem LT (n v:Int) (a s:Int) (G:I64 a) (I:I64 s) (h: ¬May a s) (w:World):
  Calls prog 278 #[ψ n,ι a,ι s,ψ v] w λe w'=>e= .returned (ψ (lay n a s v))/\ ∃k,w'=w.drewN k:=by
 have H:=Cx a s G I h;have d:=κ (show n=lay n a s v by unfold lay;rw[if_neg h]);clear h
 go_enter func278,ntmps278
 go_wp2_with (go_at_call 285;refine(H _).mono ?_;rintro e w' ⟨rfl,rfl⟩)
 go_ret;exact⟨xU d.o,0,rfl⟩
theorem Hr (n v:Int) (a s:Int) (G:U64 n) (I:U64 v) (d:I64 a) (H:I64 s) (w:World):
  Calls prog 278 #[ψ n,ι a,ι s,ψ v] w λe w'=>e= .returned (ψ (lay n a s v))/\ ∃k,w'=w.drewN k:=by
 by_cases h:May a s
 ·exact Hq n v a s G I h w
 ·exact LT n v a s d H h w
theorem Wm (n s:Int) (G:U64 n) (H:I64 s) (w:World):
  Calls prog 327 #[ψ n,ι s] w λe w'=>e= .returned (ι (sgd n s))/\w'=w:=by
 obtain⟨I,n2⟩:=G;obtain⟨s1,s2⟩:=H;by_cases h1:1<=s
 ·by_cases h2:s<=64
  ·have d:=κ (Bx n s h1 h2)
   go_enter func327,ntmps327
   go_wp2;go_ret;exact⟨xU d.o,rfl⟩
  ·have d:=κ (show 0=sgd n s by unfold sgd;rw[if_pos τ])
   go_enter func327,ntmps327
   go_wp2;go_ret;exact⟨xU d.o,rfl⟩
 ·have d:=κ (show 0=sgd n s by unfold sgd;rw[if_pos τ])
  go_enter func327,ntmps327
  go_wp2;go_ret;exact⟨xU d.o,rfl⟩
end
section
open _root_.Go.Proofs.Tryz
set_option maxHeartbeats 8000000
theorem KL (l:List Int) (v:Value) (w:World) (ag:8<l.length) (ad:SlI .u8 w v l) (O:Byt l):
  Calls prog 167 #[v] w λe w'=>e= .returned (ψ (num l))/\w'=w:=by
 obtain⟨ao,cap,rfl,am,G,ah,_,_⟩:=ad;obtain⟨b,ae,rfl,_,_⟩:=G 0 τ;have ab:=κ G;have aa:=κ O;have I:=κ (Cp l);clear G O
 go_enter func167,ntmps167
 go_wp2;obtain⟨d,Y⟩: ∃d,d=l.length-8:=⟨_,rfl⟩;have J:=κ (show (l.drop d).length=8 by simp;omega);have ak:d+8<=l.length:=by omega
 have aj:l.length<=d+8:=by omega
 rw[<-Y] at I ⊢;clear Y
 go_loop [4,14] (λn i=> ∃j:Nat,j<=8/\i= ι j/\n= ψ (num ((l.drop d).take j))) (λ_ i=>8-(intOf i).toNat)
 case atStart=>exact⟨0,τ,rfl,by simp[num]⟩
 case round=>
  obtain⟨j,al,rfl,rfl⟩:=hrel;by_cases hlt:j<8
  ·obtain⟨af,ap,N,_,U⟩:=ab.o (d+j) τ;simp only[Option.some.injEq,Addr.mk.injEq,and_true] at N;obtain⟨rfl,rfl⟩:=N;have an:d+j<l.length:=by omega
   have ai:w.cell? ⟨b,ae+d+j,none⟩=some (υ (l.getD (d+j) 0)):=by rw[Nat.add_assoc];exact U
   clear U
   have H:=ZR (l.drop d) j (by rw[J.o];exact hlt) (λi=>by
    have:=aa.o (d+i)
    rwa [List.getD_eq_getElem?_getD,List.getElem?_drop,<-List.getD_eq_getElem?_getD])
   rw[List.getElem_drop] at H;have ac:=κ H;clear H;go_wp2
   go_round
   case rel=>exact⟨j+1,τ,by go_num,by rw[<-ac.o]⟩
   case measure=>simp[intOf];omega
  ·go_wp2;go_ret;exact⟨xU (by rw[List.take_of_length_le (by rw[J.o];omega)];exact I.o),rfl⟩
theorem Vi (l:List Int) (v:Value) (w:World) (O:l.length<=8) (N:SlI .u8 w v l) (d:Byt l):
  Calls prog 167 #[v] w λe w'=>e= .returned (ψ (num l))/\w'=w:=by
 obtain⟨ac,cap,rfl,ab,G,U,_,_⟩:=N;have I:=κ G;have H:=κ d;clear G d
 go_enter func167,ntmps167
 go_wp2
 go_loop [4,14] (λn i=> ∃j:Nat,j<=l.length/\i= ι j/\n= ψ (num (l.take j))) (λ_ i=>l.length-(intOf i).toNat)
 case atStart=>exact⟨0,τ,rfl,by simp[num]⟩
 case round=>
  obtain⟨j,aa,rfl,rfl⟩:=hrel;by_cases hlt:j<l.length
  ·obtain⟨b,ad,rfl,_,Y⟩:=I.o j hlt;have J:=κ (ZR l j hlt H.o);go_wp2
   go_round
   case rel=>exact⟨j+1,τ,by go_num,by rw[<-J.o]⟩
   case measure=>simp[intOf];omega
  ·go_wp2;go_ret;exact⟨xU (by rw[List.take_of_length_le τ]),rfl⟩
theorem gi (l:List Int) (v:Value) (w:World) (G:SlI .u8 w v l) (d:Byt l):
  Calls prog 167 #[v] w λe w'=>e= .returned (ψ (num l))/\w'=w:=by
 by_cases h:8<l.length
 ·exact KL l v w h G d
 ·exact Vi l v w τ G d
theorem FR:(prog.info? 5).map (λi=>(i.zero,i.size,i.bytes))=some (some (υ 0),1,1):=by kernel_rfl
theorem DO (n:Int) (s:Nat) (O:U64 n) (ad:s<=8) (w:World):
  Calls prog 208 #[ψ n,ι s] w λe w'=> ∃v,e= .returned v/\SlI .u8 w' v (bys n s)/\qa w w':=by
 obtain⟨af,n2⟩:=O;obtain⟨ac,hi,Y,aa,ab⟩:=info_parts FR
 go_enter func208,ntmps208
 go_wp2_with (at_make;refine wpList_make_full _ rfl _ _ 35 rfl w.heap.size 5 ac (υ 0) 1 underlying35 hi Y aa _ _ _ _ s rfl rfl τ τ ?c1 ?c2 ?c3 ?_)
 case c1=>rw[ab];omega
 case c2=>unfold maxLen;omega
 case c3=>omega
 intro w1 d H;have G:Below w.heap.size w w1:=(Below.refl _ _).grown H τ η;have I:w1.ownsRow w.heap.size 5 1 (δ (some ⟨w.heap.size,0,none⟩) s s) s ((kj n s 0).map (Value.int .u8)):=by
  rw[We];simpa [toList_madeCells_one] using d
 clear d H;go_wp2
 go_loopw [16] (λi wr=> ∃k:Nat,k<=s/\i= ι k/\wr.ownsRow w.heap.size 5 1 (δ (some ⟨w.heap.size,0,none⟩) s s) s ((kj n s k).map (Value.int .u8))/\Below w.heap.size w wr) (λi _=>s-(intOf i).toNat)
 case atStart=>exact⟨0,τ,rfl,I,G⟩
 case round=>
  obtain⟨k,N,rfl,d,G⟩:=hrel;clear I;by_cases hlt:k<s
  ·have J:=d.cellAt (s-1-k) τ;have ae:=d.frozenAt (s-1-k);have U:=d.stored (s-1-k) (υ (by8 n k));rw[List.getElem?_map,List.getElem?_eq_getElem (by rw[Vd];omega),Option.map_some] at J;go_wp2;go_roundw
   case rel=>exact⟨k+1,τ,by go_num,by rw[<-Dw n s k hlt,List.map_set];exact U.1,G.setCell (Nat.le_refl _) _⟩
   case measure=>simp[intOf];omega
  ·obtain rfl:k=s:=by omega
   clear hlt N;go_wp2;refine bodyPost_ret (v:= δ (some ⟨w.heap.size,0,none⟩) k k) (by simp[results,results208,go_sem]) rfl ?_;rw[Wf] at d;have:=zQ n k;exact⟨_,rfl,SlI.of_owns (by rw[this];exact d) (by rw[this];omega),G⟩
end
section
set_option maxHeartbeats 8000000
theorem EX (n s:Int) (d:1<=s) (G:s<=64):sgd n s%two s=n%two s:=by
 unfold sgd;rw[if_neg τ];split
 ·exact Int.emod_emod_of_dvd _ (Int.dvd_refl _)
 ·rw[Int.sub_emod_right];exact Int.emod_emod_of_dvd _ (Int.dvd_refl _)
theorem KY (n s:Int) (G:1<=s) (H:s<=64): -two (s-1)<=sgd n s/\sgd n s<two (s-1):=by
 have b:=gD (s-1);have q:=Xe (k:=s-1) τ;rw[show s-1+1=s from by omega] at q;have c:=Int.emod_nonneg n (b:=two s) τ;have d:=Int.emod_lt_of_pos n (b:=two s) τ;unfold sgd;rw[if_neg τ];split<;>omega
theorem FF (n a s v:Int) (d:U64 n):U64 (lay n a s v):=by
 unfold lay;split
 ·have:=FG n.toNat a.toNat s.toNat v.toNat;unfold U64;omega
 ·exact d
theorem PU (n a s v:Int) (h:May a s):(lay n a s v).toNat=DS n.toNat a.toNat s.toNat v.toNat:=by
 unfold lay;rw[if_pos h];simp
theorem Cu {d M:Nat} (H:d<18446744073709551616) (G:M<18446744073709551616) (h: ∀i,i<64->d.testBit i=M.testBit i):d=M:=by
 apply Nat.eq_of_testBit_eq;intro i;by_cases hi:i<64
 ·exact h i hi
 ·rw[Nat.testBit_lt_two_pow (Nat.lt_of_lt_of_le (m:=2 ^ 64) H (Nat.pow_le_pow_right τ τ)),Nat.testBit_lt_two_pow (Nat.lt_of_lt_of_le (m:=2 ^ 64) G (Nat.pow_le_pow_right τ τ))]
theorem VI (n:Int) (k:Nat):yJ (bys n k)=n%2 ^ (8* k):=by
 induction k with
 | zero=>simp[bys,yJ,Int.emod_one]
 | succ k ih=>
  rw[CV,show by8 n k::bys n k=[by8 n k]++bys n k from rfl,Jg,ih,zQ];unfold by8;rw[show (8* (k+1))=8* k+8 from by omega,Int.pow_add,show ((256:Int) ^ k)=2 ^ (8* k) from by rw[Int.pow_mul];rfl];have e:yJ [n/2 ^ (8* k)%256]=n/2 ^ (8* k)%256:=by simp[yJ]
  rw[e];have I:(0:Int)<2 ^ (8* k):=Int.pow_pos ζ;have d:=Int.emod_add_mul_ediv n (2 ^ (8* k));have G:=Int.emod_add_mul_ediv (n/2 ^ (8* k)) 256;have J:=Int.emod_nonneg n (b:=2 ^ (8* k)) τ;have N:=Int.emod_lt_of_pos n I;have O:=Int.emod_nonneg (n/2 ^ (8* k)) (b:=256) τ;have U:=Int.emod_lt_of_pos (n/2 ^ (8* k)) (b:=256) τ;generalize (2:Int) ^ (8* k)=P at *;generalize n%P=R at *;generalize ab:n/P=Q at *;generalize Q%256=r at *;generalize Q/256=q at *;have aa:r* P<=255* P:=Int.mul_le_mul_of_nonneg_right τ τ;have Y:0<=r* P:=Int.mul_nonneg τ τ;have H:n=(r* P+R)+(P* 256)* q:=by
   rw[<-d,<-G,Int.mul_add,Int.mul_comm P r,<-Int.mul_assoc];omega
  rw[show (2:Int) ^ 8=256 from by decide];rw[H,Int.add_mul_emod_self_left];exact(Int.emod_eq_of_lt τ τ).symm
theorem Byt.snoc {l:List Int} {x:Int} (h:Byt (l++[x])):Byt l/\0<=x/\x<=255:=by
 constructor
 ·intro i;by_cases hi:i<l.length
  ·have:=h i
   rwa [List.getD_eq_getElem?_getD,List.getElem?_append_left hi,<-List.getD_eq_getElem?_getD] at this
  ·rw[List.getD_eq_getElem?_getD,List.getElem?_eq_none τ];simp
 ·have:=h l.length;rw[List.getD_eq_getElem?_getD,List.getElem?_append_right (Nat.le_refl _)] at this
  simpa using this
theorem Cq (l:List Int): ∀m:List Int,l.length=m.length->Byt l->Byt m->yJ l=yJ m->l=m:=by
 refine gS (P:=λl=> ∀m:List Int,l.length=m.length->Byt l->Byt m->yJ l=yJ m->l=m) ?_ ?_ l
 ·intro m h _ _ _;exact(List.eq_nil_of_length_eq_zero (by simpa using h.symm)).symm
 ·intro l x U m d N H J;rcases List.eq_nil_or_concat m with rfl | ⟨m',y,rfl⟩
  ·simp at d
  ·rw[List.concat_eq_append] at *;rw[yU,yU] at J;obtain⟨O,Y⟩:=N.snoc;obtain⟨I,aa⟩:=H.snoc;have G:x=y:=by omega
   have:=U m' (by simpa using d) O I τ;rw[this,G]
theorem JP (n:Int) (k:Nat):Byt (bys n k):=by
 intro i;rw[List.getD_eq_getElem?_getD];by_cases hi:i<(bys n k).length
 ·rw[List.getElem?_eq_getElem hi,Option.getD_some];simp only[bys,List.getElem_map];exact Ly _ _
 ·rw[List.getElem?_eq_none τ];simp
theorem YJ (l:List Int) (h:Byt l):0<=yJ l/\yJ l<2 ^ (8* l.length):=by
 revert h
 refine gS (P:=λl=>Byt l->0<=yJ l/\yJ l<2 ^ (8* l.length)) ?_ ?_ l
 ·intro _;simp[yJ]
 ·intro l x G h;obtain⟨d,H⟩:=h.snoc;have:=G d;rw[yU,List.length_append,List.length_singleton,show 8* (l.length+1)=8* l.length+8 from by omega,Int.pow_add,show (2:Int) ^ 8=256 from by decide];omega
theorem uG (l:List Int) (h:Byt l) (H:l.length<=8):num l=yJ l:=by
 have d:=YJ l h;have G:(2:Int) ^ (8* l.length)<=2 ^ 64:=by
  have:=Nat.pow_le_pow_right (n:=2) τ (show 8* l.length<=64 by omega)
  exact_mod_cast this
 rw[Xm];exact Int.emod_eq_of_lt d.1 (Int.lt_of_lt_of_le d.2 G)
theorem F0 (l:List Int) (h:Byt l) (G:l.length<=8):bys (num l) l.length=l:=by
 apply Cq _ _ (zQ _ _) (JP _ _) h;have d:=YJ l h;rw[VI,uG l h G];exact Int.emod_eq_of_lt d.1 d.2
end
section
open _root_.Go.Proofs.Tryz
set_option maxHeartbeats 8000000
def qx (n s:Int):List Int:=if 0<=s/\s<=8 then bys n s.toNat else []
theorem gY (n s:Int) (h:0<=s/\s<=8):qx n s=bys n s.toNat:=by unfold qx;rw[if_pos h]
theorem DP (n s:Int) (G:U64 n) (H:I64 s) (w:World):
  Calls prog 208 #[ψ n,ι s] w λe w'=> ∃v,e= .returned v/\SlI .u8 w' v (qx n s)/\qa w w':=by
 obtain⟨s1,s2⟩:=H;by_cases h:0<=s/\s<=8
 ·obtain⟨S,rfl⟩:=Int.eq_ofNat_of_zero_le h.1;rw[gY _ _ h,Int.toNat_natCast];exact DO n S G τ w
 ·have d:=κ (show qx n s=[] by unfold qx;rw[if_neg h]);by_cases h1:0<=s
  ·have I:8<s:=by omega
   clear h
   go_enter func208,ntmps208
   go_wp2;go_ret;exact⟨_,rfl,by rw[d.o];exact SlI.nil _ _,qa.refl _⟩
  ·clear h
   go_enter func208,ntmps208
   go_wp2;go_ret;exact⟨_,rfl,by rw[d.o];exact SlI.nil _ _,qa.refl _⟩
end
section
set_option maxHeartbeats 8000000
theorem qK {P:Program} (w:World) {ops:Array Oper} {rest:List Oper} {o:Oper} {a:Act} {Q:Exit->Act->World->Prop} (J:o.guard=none) (s x:Operand) (t:TypeId)
  (O:o.op= .call {callee:= .builtin .append,args:= #[s,x],argTypes:= #[t,t]})
  (base:Nat) (e:TypeId) (i:TypeInfo) (z:Value) (bytes:Nat) (Y:P.underlying t=some (.slice e)) (hi:P.info? e=some i) (ax:i.zero=some z)
  (av:i.size=1) (al:i.bytes=bytes) (ay:z.cells.size=1)
  (v:Value) (k:IntKind) (l:List Int) (U:a.eval s=v) (H:w.ownsRow base e 1 v l.length (l.map (Value.int k)))
  (ae:Value) (d:List Int) (aa:a.eval x=ae) (ao:SlI k w ae d)
  (am:(l.length+d.length)* bytes<=140737488355328) (aA:1<=bytes) (ak:base<=w.heap.size)
  (h: ∀v' w',w'.ownsRow base e 1 v' (l++d).length ((l++d).map (Value.int k))->w.grownBy w' v.ownBlock->(v'.ownBlock=v.ownBlock∨v'.ownBlock=some w.heap.size)->wpList P ops Q rest (a.put o.dst v') w'):wpList P ops Q (o::rest) a w:=by
 have aj:l.length+d.length<=maxLen:=by
  have:=Nat.le_mul_of_pos_right (l.length+d.length) (show 0<bytes by omega);unfold maxLen;omega
 obtain⟨az,cap,rfl,aB,ap,aC,aD,aq⟩:=ao;cases az with
 | none=>
  have G:cap=0:=aq rfl;subst G;have au:d=[]:=List.eq_nil_of_length_eq_zero τ;subst au;refine wpList_append_own_none J s x t O base e i 1 Y hi v l.length (l.map (Value.int k)) U H aa ?_;exact h v w (by simpa using H) ⟨rfl,rfl,rfl,Nat.le_refl _,λ_ _ _=>rfl⟩ (Or.inl rfl)
 | some ad=>
  refine wpList_append_own_at w J s x t O base e i z 1 bytes Y hi ax av al ay ζ v l.length (l.map (Value.int k)) U H ad d.length cap (d.map (Value.int k)) aa η ?_ ?_ aj am ak ?_
  ·intro j u N;rw[List.getElem?_map] at N;obtain⟨y,ab,rfl⟩:=Option.map_eq_some_iff.1 N;obtain⟨ar,aE⟩:=List.getElem?_eq_some_iff.1 ab;obtain⟨b,ac,I,_,an⟩:=ap j ar;simp only[Option.some.injEq] at I;subst I;have af:(⟨b,ac,none⟩:Addr).add j=⟨b,ac+j,none⟩:=by
    unfold Addr.add;split
    ·rename_i G;subst G;rfl
    ·rfl
   rw[af,an,List.getD_eq_getElem?_getD,ab];rfl
  ·intro u aw;obtain⟨y,_,rfl⟩:=List.mem_map.1 aw;rfl
  ·intro v' w' ag ah _ ai;exact h v' w' (by simpa using ag) ah ai
theorem XE {w w':World} {base e size n:Nat} {v u:Value} {xs:List Value} (h:w.ownsRow base e size v n xs) (g:w.grownBy w' u.ownBlock) (d: ∀b,v.ownBlock=some b->u.ownBlock≠some b):w'.ownsRow base e size v n xs:=by
 obtain⟨G,H⟩:=h;refine⟨G, ?_⟩;rcases H with h | ⟨b,cap,cur,e1,hb,hg,rest⟩
 ·exact Or.inl h
 ·refine Or.inr ⟨b,cap,cur,e1,hb, ?_,rest⟩;rw[g.block b (lt_of_block hg) (by rw[e1] at d;exact λe=>d b rfl e.symm)];exact hg
theorem gI {w:World} {base e size n b:Nat} {v:Value} {xs:List Value} (h:w.ownsRow base e size v n xs) (d:v.ownBlock=some b):b<w.heap.size:=by
 rcases h.2 with ⟨rfl,_⟩ | ⟨G,cap,cur,rfl,_,H,_⟩
 ·cases d
 ·obtain rfl:G=b:=by injection d
  exact lt_of_block H
theorem jy {w w':World} {base e size n:Nat} {v:Value} {xs:List Value} (h:w.ownsRow base e size v n xs) (m:qa w w'):w'.ownsRow base e size v n xs:=by
 obtain⟨d,G⟩:=h;refine⟨d, ?_⟩;rcases G with h | ⟨b,cap,cur,e1,hb,hg,rest⟩
 ·exact Or.inl h
 ·exact Or.inr ⟨b,cap,cur,e1,hb,by rw[m.block b (lt_of_block hg)];exact hg,rest⟩
theorem SlI.take {k:IntKind} {w:World} {G:Option Addr} {n cap:Nat} {l:List Int} (h:SlI k w (δ G n cap) l) (m:Nat) (ac:m<=l.length):SlI k w (δ G m cap) (l.take m):=by
 obtain⟨ad,Y,e,aa,H,ab,I,J⟩:=h;cases e;have d:(l.take m).length=m:=by simp;omega
 refine⟨G,cap,by rw[d],by rw[d];omega,λi hi=> ?_,by rw[d];omega,I,J⟩;rw[d] at hi;obtain⟨b,U,e,N,O⟩:=H i τ;exact⟨b,U,e,N,by rw[O,List.getD_eq_getElem?_getD,List.getD_eq_getElem?_getD,List.getElem?_take,if_pos hi]⟩
theorem SlI.take3 {k:IntKind} {w:World} {G:Option Addr} {n cap:Nat} {l:List Int} (h:SlI k w (δ G n cap) l) (m:Nat) (ac:m<=l.length):SlI k w (δ G m m) (l.take m):=by
 obtain⟨ad,U,e,Y,H,aa,ab,I⟩:=h;cases e;have d:(l.take m).length=m:=by simp;omega
 refine⟨G,m,by rw[d],by rw[d];omega,λi hi=> ?_,by rw[d];omega,τ,λx=>by have:=I x;omega⟩;rw[d] at hi;obtain⟨b,O,e,J,N⟩:=H i τ;exact⟨b,O,e,J,by rw[N,List.getD_eq_getElem?_getD,List.getD_eq_getElem?_getD,List.getElem?_take,if_pos hi]⟩
theorem SlI.drop {k:IntKind} {w:World} {b d n cap:Nat} {l:List Int} (h:SlI k w (δ (some ⟨b,d,none⟩) n cap) l) (m:Nat) (ab:m<=l.length):SlI k w (δ (some ⟨b,d+m,none⟩) (n-m) (cap-m)) (l.drop m):=by
 obtain⟨ac,N,e,O,G,U,Y,aa⟩:=h;cases e;refine⟨_,cap-m,by rw[List.length_drop],by rw[List.length_drop];omega,λi hi=> ?_,by rw[List.length_drop];omega,τ,λh=>by cases h⟩;rw[List.length_drop] at hi;obtain⟨J,ad,e,H,I⟩:=G (m+i) τ;cases e;refine⟨b,d+m,rfl,H, ?_⟩;rw[Nat.add_assoc,I,List.getD_eq_getElem?_getD,List.getD_eq_getElem?_getD,List.getElem?_drop]
theorem SlI.from_ {k:IntKind} {w:World} {d:Option Addr} {n cap:Nat} {l:List Int} (h:SlI k w (δ d n cap) l) (m:Nat) (af:m<=l.length) (H:Option Addr) (G:H=if cap=m then d else d.map (·.add m)):SlI k w (δ H (n-m) (cap-m)) (l.drop m):=by
 obtain⟨ag,ab,e,ac,U,ad,ae,J⟩:=h;cases e;refine⟨H,cap-m,by rw[List.length_drop],by rw[List.length_drop];omega,λi hi=> ?_,by rw[List.length_drop];omega,τ,λh=> ?_⟩
 ·rw[List.length_drop] at hi;obtain⟨b,I,e,Y,aa⟩:=U (m+i) τ;rw[if_neg τ,e] at G;have N:(⟨b,I,none⟩:Addr).add m=⟨b,I+m,none⟩:=by
   unfold Addr.add;split
   ·rename_i O;subst O;rfl
   ·rfl
  refine⟨b,I+m,by rw[G,Option.map_some,N],Y, ?_⟩;rw[Nat.add_assoc,aa,List.getD_eq_getElem?_getD,List.getD_eq_getElem?_getD,List.getElem?_drop]
 ·subst G;split at h
  ·have:=J h;omega
  ·cases d with
   | none=>have:=J rfl;omega
   | some a=>simp at h
end
section
open _root_.Go.Proofs.Tryz
set_option maxHeartbeats 8000000
theorem wk (v:Value) (l:List Int) (w:World) (I:SlI .u8 w v l) (al:l.length<=1000000):
  Calls prog 50 #[v] w λe w'=> ∃v',e= .returned v'/\w'.ownsRow w.heap.size 5 1 v' l.length (l.map (Value.int .u8))/\qa w w':=by
 obtain⟨ag,hi,ac,ae,af⟩:=info_parts (P:=prog) (e:=5) (z:= υ 0) (size:=1) (bytes:=1) ξ;have d:=κ I;obtain⟨ah,cap,rfl,ai,G,aj,ak,H⟩:=I;cases ah with
 | none=>
  have O:cap=0:=H rfl;subst O;obtain rfl:l=[]:=List.eq_nil_of_length_eq_zero τ;clear d G;have Y:=Go.run_eql_slice_nil (P:=prog) w 35 5 none 0 0 underlying35
  go_enter func50,ntmps50
  go_wp2;go_ret;exact⟨_,rfl,⟨rfl,Or.inl ⟨rfl,rfl⟩⟩,qa.refl _⟩
 | some ad=>
  have aa:=World.ownsRow_lit (e:=5) (size:=1) (base:=w.heap.size) w #[] 0 (Nat.le_refl _) (by unfold maxLen;omega) rfl;clear G H;have Y:=Go.run_eql_slice_nil (P:=prog) w 35 5 (some ad) l.length cap underlying35
  go_enter func50,ntmps50
  go_wp2_with (at_builtin;refine xq _ rfl (.tmp 5) (.tmp 6) 35 rfl w.heap.size 5 ag (υ 0) 1 underlying35 hi ac ae af rfl _ .u8 [] rfl aa _ l rfl (d.o.keep (qa.alloc _ _)) (by simp;omega) ζ (qa.alloc w _).size ?_;intro v' w2 ab U;have N:=κ ab;have J:=κ U)
  go_ret;exact⟨_,rfl,N.o,(qa.alloc w (.cells #[] 5)).grown J.o (qa.alloc w _).size (by intro q h;cases h;exact Nat.le_refl _)⟩
theorem xB {S:Nat->Prop} {w w':World} {base e size n:Nat} {v:Value} {xs:List Value} (h:w.ownsRow base e size v n xs) (m:qg S w w') (H: ∀k,S k->k<base):w'.ownsRow base e size v n xs:=by
 obtain⟨d,G⟩:=h;refine⟨d, ?_⟩;rcases G with h | ⟨g,cap,cur,e1,hb,hg,rest⟩
 ·exact Or.inl h
 ·exact Or.inr ⟨g,cap,cur,e1,hb,m.blk hg (λx=>by have:=H g x;omega),rest⟩
theorem qU {w:World} {base e n:Nat} {v:Value} {xs:List Value} (h:w.ownsRow base e 1 v n xs): ∃oa m cap,v= δ oa m cap/\m=n/\n<=cap:=by
 rcases h.2 with ⟨rfl,e⟩ | ⟨b,cap,cur,rfl,_,_,d,_⟩
 ·exact⟨none,0,0,rfl,τ,τ⟩
 ·exact⟨_,_,cap,rfl,rfl,d⟩
theorem Df {w w':World} {base e size n b:Nat} {v:Value} {xs:List Value} {o:Obj} (g:w.grownBy w' v.ownBlock) (G:w.ownsRow base e size v n xs) (H:b<base) (h:w.heap[b]? =some o):w'.heap[b]? =some o:=by
 rw[g.block b (ql h)]
 ·exact h
 ·rcases G.2 with ⟨rfl,_⟩ | ⟨d,cap,cur,rfl,I,_⟩
  ·exact λx=>by cases x
  ·intro x;have:b=d:=by injection x
   omega
structure jX (w:World) (W:Nat) (v:Value) (l:List Int):Prop where
 blk:w.heap[W]? =some (.cells #[v] 204 (0,0))
 row:w.ownsRow (W+1) 5 1 v l.length (l.map (Value.int .u8))
def WrS (W:Nat) (v:Value) (b:Nat):Prop:=b=W∨v.ownBlock=some b
theorem Ed {w:World} {W:Nat} {v:Value} {l:List Int} (h:jX w W v l) (vb:Value) (lb:List Int) (O:SlI .u8 w vb lb) (ap:l.length+lb.length<=10000000):
  Calls prog 96 #[γ W,vb] w λe w'=>e= .returned (.tuple #[])/\(∃v',jX w' W v' (l++lb)/\(v'.ownBlock=v.ownBlock∨v'.ownBlock=some w.heap.size))/\qg (WrS W v) w w':=by
 obtain⟨ak,hi,ah,ai,aj⟩:=info_parts (P:=prog) (e:=5) (z:= υ 0) (size:=1) (bytes:=1) ξ;have al:=β0 h.blk;have an:=qd h.blk 0;have ad:=ql h.blk;have H:=κ h;have ac:=κ O;clear h O
 go_enter func96,ntmps96
 go_wp2_with (at_builtin;refine qK _ rfl (.tmp 8) (.tmp 9) 35 rfl (W+1) 5 ak (υ 0) 1 underlying35 hi ah ai aj rfl v .u8 l rfl H.o.row _ lb rfl ac.o τ ζ ad ?_;intro v' w2 J I N;have aa:=κ J;have d:=κ I;have Y:=κ N;have G:=Df I H.o.row (Nat.lt_succ_self W) H.o.blk;have c2:=β0 G;have ao:=qd G 0;have ab:=κ G;obtain⟨ar,aq,am,rfl,af⟩:=qU J;clear J I N G af)
 refine bodyPost_end (v:= .tuple #[]) ?rr rfl ?_
 case rr=>simp[results,results96,go_sem]
 have U:qg (WrS W v) w w2:=⟨d.o.os,d.o.tape,d.o.output,d.o.size,λk ae ag=>d.o.block k ae (λe=>ag (Or.inr e.symm))⟩;refine⟨rfl,⟨_,⟨qA (qo ab.o 0 _) rfl, ?_⟩,Y.o⟩,U.set (Or.inl rfl) _⟩;exact xB (S:=λb=>b=W) aa.o ((qg.refl (λb=>b=W) w2).set (p:=⟨W,0,none⟩) rfl _) (by rintro k rfl;exact Nat.lt_succ_self _)
end
section
open _root_.Go.Proofs.Tryz
set_option maxHeartbeats 8000000
theorem jX.more {w w':World} {W:Nat} {v:Value} {l:List Int} (h:jX w W v l) (m:qa w w'):jX w' W v l:=⟨qc m h.blk,jy h.row m⟩
def us (w w':World) (W:Nat) (v:Value) (l:List Int):Prop:=
 (∃v',jX w' W v' l/\(v'.ownBlock=v.ownBlock∨ ∃g,v'.ownBlock=some g/\w.heap.size<=g))/\qg (WrS W v) w w'
theorem us.after {w w1 w':World} {W:Nat} {v:Value} {l:List Int} (m:qa w w1) (h:us w1 w' W v l):us w w' W v l:=by
 obtain⟨⟨v',G,d⟩,a⟩:=h;refine⟨⟨v',G, ?_⟩,(qg.of_more m).trans a⟩;rcases d with d | ⟨g,d,h3⟩
 ·exact Or.inl d
 ·exact Or.inr ⟨g,d,Nat.le_trans m.size h3⟩
theorem uU {w:World} {W:Nat} {v:Value} {l:List Int} (h:jX w W v l) (vb:Value) (lb:List Int) (J:SlI .u8 w vb lb) (I:l.length+lb.length<=10000000):
  Calls prog 96 #[γ W,vb] w λe w'=>e= .returned (.tuple #[])/\us w w' W v (l++lb):=
 (Ed h vb lb J I).mono λ_ _ ⟨H,⟨v',d,G⟩,a⟩=>⟨H,⟨v',d,G.imp id λe=>⟨_,e,Nat.le_refl _⟩⟩,a⟩
theorem uI {w:World} {W:Nat} {v:Value} {l:List Int} (h:jX w W v l) (n s:Int) (H:0<=n/\n<=4294967295) (aa:1<=s/\s<=4) (Y:l.length<=1000000):
  Calls prog 155 #[γ W,ω n,ι s] w λe w'=>e= .returned (.tuple #[])/\us w w' W v (l++qx n s):=by
 have G:=κ h;have ab:(qx n s).length<=8:=by
  obtain⟨k,rfl⟩: ∃k:Nat,s=k:=⟨s.toNat,τ⟩;unfold qx;rw[if_pos τ,zQ];omega
 have I:U64 n:=by unfold U64;omega
 have N:I64 s:=by unfold I64;omega
 obtain⟨ac,n2⟩:=H;clear h
 go_enter func155,ntmps155
 go_wp2_with first | (go_at_call 208;refine(DP n s I N _).mono ?_;rintro e w1 ⟨U,rfl,J,d⟩) | (go_at_call 96;refine(uU (G.o.more d) U _ J τ).mono ?_;rintro e w2 ⟨rfl,O⟩)
 refine bodyPost_end (v:= .tuple #[]) ?rr rfl ?_
 case rr=>simp[results,results155,go_sem]
 exact⟨rfl,O.after d⟩
theorem wi {w:World} {W:Nat} {v:Value} {l:List Int} (h:jX w W v l) (n:Int) (I:0<=n/\n<=255) (H:l.length<=1000000):
  Calls prog 93 #[γ W,υ n] w λe w'=>e= .returned (.tuple #[])/\us w w' W v (l++qx n 1):=by
 have G:=κ h;have J:0<=n/\n<=4294967295:=by omega
 have d:=κ J;obtain⟨O,n2⟩:=I;clear h
 go_enter func93,ntmps93
 go_wp2_with (go_at_call 155;refine(uI G.o n 1 d.o ζ H).mono ?_;rintro e w2 ⟨rfl,N⟩)
 refine bodyPost_end (v:= .tuple #[]) ?rr rfl ?_
 case rr=>simp[results,results93,go_sem]
 exact⟨rfl,N⟩
theorem ua {w:World} {W:Nat} {v:Value} {l:List Int} (h:jX w W v l) (n:Int) (I:0<=n/\n<=65535) (H:l.length<=1000000):
  Calls prog 94 #[γ W,φ n] w λe w'=>e= .returned (.tuple #[])/\us w w' W v (l++qx n 2):=by
 have G:=κ h;have J:0<=n/\n<=4294967295:=by omega
 have d:=κ J;obtain⟨O,n2⟩:=I;clear h
 go_enter func94,ntmps94
 go_wp2_with (go_at_call 155;refine(uI G.o n 2 d.o ζ H).mono ?_;rintro e w2 ⟨rfl,N⟩)
 refine bodyPost_end (v:= .tuple #[]) ?rr rfl ?_
 case rr=>simp[results,results94,go_sem]
 exact⟨rfl,N⟩
theorem uB {w:World} {W:Nat} {v:Value} {l:List Int} (h:jX w W v l) (n:Int) (I:0<=n/\n<=4294967295) (H:l.length<=1000000):
  Calls prog 95 #[γ W,ω n] w λe w'=>e= .returned (.tuple #[])/\us w w' W v (l++qx n 4):=by
 have G:=κ h;have J:0<=n/\n<=4294967295:=by omega
 have d:=κ J;obtain⟨O,n2⟩:=I;clear h
 go_enter func95,ntmps95
 go_wp2_with (go_at_call 155;refine(uI G.o n 4 d.o ζ H).mono ?_;rintro e w2 ⟨rfl,N⟩)
 refine bodyPost_end (v:= .tuple #[]) ?rr rfl ?_
 case rr=>simp[results,results95,go_sem]
 exact⟨rfl,N⟩
theorem gf {w:World} {W:Nat} {v:Value} {l:List Int} (h:jX w W v l) (G:l.length<=1000000):
  Calls prog 97 #[γ W] w λe w'=> ∃v',e= .returned v'/\w'.ownsRow w.heap.size 5 1 v' l.length (l.map (Value.int .u8))/\qa w w':=by
 have J:=β0 h.blk;have d:=κ (SlI.of_owns h.row τ);clear h
 go_enter func97,ntmps97
 go_wp2_with (go_at_call 50;refine(wk v l w d.o G).mono ?_;rintro e w2 ⟨N,rfl,I,H⟩)
 go_ret;exact⟨_,rfl,I,H⟩
end
section
open _root_.Go.Proofs.Tryz
set_option maxHeartbeats 8000000
theorem jD {w:World} {base e size n b:Nat} {v:Value} {xs:List Value} (h:w.ownsRow base e size v n xs) (d:v.ownBlock=some b):base<=b:=by
 rcases h.2 with ⟨rfl,_⟩ | ⟨G,cap,cur,rfl,H,_⟩
 ·cases d
 ·obtain rfl:G=b:=by injection d
  exact H
theorem us.to_more {d w w':World} {W:Nat} {v:Value} {l J:List Int} (I:us w w' W v l) (h:jX w W v J) (m:qa d w) (G:d.heap.size<=W):qa d w':=
 qg.to_more m I.2 (by
  rintro k (rfl | H)
  ·exact G
  ·have:=jD h.row H;omega)
theorem JE {d w w':World} {R:Nat} (a:qg (λb=>b=R) w w') (m:qa d w) (G:d.heap.size<=R):qa d w':=
 qg.to_more m a (by rintro k rfl;exact G)
theorem wT (w:World):jX (w.alloc (.cells #[δ none 0 0] 204)) w.heap.size (δ none 0 0) []:=⟨qk _ _,⟨rfl,Or.inl ⟨rfl,rfl⟩⟩⟩
structure WrK (w0 w:World) (W:Nat) (v:Value) (l:List Int) (B:Nat) (o:Obj):Prop where
 wr:jX w W v l
 more:qa w0 w
 base:w0.heap.size<=W
 keep:w.heap[B]? =some o
 ne: ¬B=W
 apart:v.ownBlock≠some B
theorem WrK.new {d w:World} {W:Nat} {v:Value} {l:List Int} (o:Obj) (h:jX w W v l) (m:qa d w) (b:d.heap.size<=W):WrK d (w.alloc o) W v l w.heap.size o:=
 ⟨h.more (qa.alloc w o),m.al o,b,qk w o,λe=>by have:=ql h.blk;omega,λe=>by have:=gI h.row e;omega⟩
theorem WrK.wrote {G w w':World} {W:Nat} {v:Value} {l l':List Int} {B:Nat} {o:Obj} (h:WrK G w W v l B o) (x:us w w' W v l'): ∃v',WrK G w' W v' l' B o:=by
 have I:=x.to_more h.wr h.more h.base;obtain⟨⟨v',H,d⟩,a⟩:=x;refine⟨v',H,I,h.base,a.blk h.keep ?_,h.ne, ?_⟩
 ·rintro(e | e)
  ·exact h.ne e
  ·exact h.apart e
 ·intro e;rcases d with d | ⟨g,d,h3⟩
  ·exact h.apart (by rw[<-d];exact e)
  ·rw[e] at d;obtain rfl:B=g:=by injection d
   have:=ql h.keep;omega
structure qr (w:World) (R:Nat) (left:List Int) (wrong:Int) (C:Nat->Prop:=λ_=>True):Prop where
 blk: ∃v,w.heap[R]? =some (.cells #[v,.int .i64 wrong] 247 (0,0))/\SlI .u8 w v left/\(¬left=[]-> ∀g,v.ownBlock=some g->C g)
 small:left.length<=1000000
 byt:Byt left
 shut: ¬wrong=0->left=[]
theorem qr.more {w w':World} {R:Nat} {l:List Int} {e:Int} {C:Nat->Prop} (h:qr w R l e C) (m:qa w w'):qr w' R l e C:=by
 obtain⟨⟨v,d,G,N⟩,H,I,J⟩:=h;exact⟨⟨v,qc m d,G.keep m,N⟩,H,I,J⟩
theorem qr.mono {w:World} {R:Nat} {l:List Int} {e:Int} {C D:Nat->Prop} (h:qr w R l e C) (k: ∀g,C g->D g):qr w R l e D:=by
 obtain⟨⟨v,d,G,N⟩,H,I,J⟩:=h;exact⟨⟨v,d,G,λx g y=>k g (N x g y)⟩,H,I,J⟩
theorem qr.old {w:World} {R:Nat} {l:List Int} {e:Int} {C:Nat->Prop} (h:qr w R l e C):qr w R l e (λg=>C g/\g<w.heap.size):=by
 obtain⟨⟨v,G,d,N⟩,H,I,J⟩:=h;refine⟨⟨v,G,d,λx g y=>⟨N x g y, ?_⟩⟩,H,I,J⟩;obtain⟨Y,cap,rfl,_,U,_⟩:=d;obtain⟨b,aa,rfl,O,_⟩:=U 0 (List.length_pos_iff.2 x);obtain rfl:b=g:=by injection y
 exact O
theorem Bw {D:Nat->Prop} {w w':World} {v:Value} {l:List Int} (h:SlI .u8 w v l) (J: ¬l=[]-> ∀b,v.ownBlock=some b-> ¬D b) (a:qg D w w'):SlI .u8 w' v l:=by
 obtain⟨O,cap,rfl,G,H,I⟩:=h;refine⟨O,cap,rfl,G,λi hi=> ?_,I⟩;obtain⟨b,U,rfl,d,N⟩:=H i hi;exact⟨b,U,rfl,Nat.lt_of_lt_of_le d a.size,by rw[a.cells b _ d (J (λe=>by rw[e] at hi;simp at hi) b rfl)];exact N⟩
theorem qr.off {D:Nat->Prop} {w w':World} {R:Nat} {l:List Int} {e:Int} {C:Nat->Prop} (h:qr w R l e C) (m:qg D w w') (U: ¬D R) (O: ∀g,C g-> ¬D g):qr w' R l e C:=by
 obtain⟨⟨v,G,H,d⟩,I,J,N⟩:=h;exact⟨⟨v,m.blk G U,Bw H (λx b y=>O b (d x b y)) m,d⟩,I,J,N⟩
theorem Kn {w:World} {R:Nat} {l:List Int} {e:Int} {C:Nat->Prop} (h:qr w R l e C) (o:Nat) (x:Int):w.cell? ⟨R,o,none⟩≠some (υ x):=by
 obtain⟨⟨v,d,⟨G,cap,rfl,_⟩,_⟩,_⟩:=h;rw[cell_of_row w R o _ _ _ d]
 match o with
 | 0=>simp
 | 1=>simp
 | n+2=>simp
theorem SlI.away {S:Nat->Prop} {w w':World} {v:Value} {l:List Int} (h:SlI .u8 w v l) (m:qg S w w') (O: ∀b,S b-> ∀o x,w.cell? ⟨b,o,none⟩≠some (υ x)):SlI .u8 w' v l:=by
 obtain⟨U,cap,H,I,J,N⟩:=h;refine⟨U,cap,H,I,λi hi=> ?_,N⟩;obtain⟨b,Y,e,d,G⟩:=J i hi;exact⟨b,Y,e,Nat.lt_of_lt_of_le d m.size,by rw[m.cells b _ d (λs=>O b s _ _ G)];exact G⟩
theorem xf:Byt []:=by intro i;simp
theorem Byt.drop {l:List Int} (h:Byt l) (n:Nat):Byt (l.drop n):=by
 intro i;have:=h (n+i);rw[List.getD_eq_getElem?_getD] at this ⊢;rw[List.getElem?_drop];exact this
theorem Byt.take {l:List Int} (h:Byt l) (n:Nat):Byt (l.take n):=by
 intro i;have:=h i;rw[List.getD_eq_getElem?_getD] at this ⊢;rw[List.getElem?_take];split
 ·exact this
 ·simp
def tkB (l:List Int) (n:Int):List Int:=if n<=l.length then l.take n.toNat else []
def tkL (l:List Int) (n:Int):List Int:=l.drop n.toNat
def tkE (l:List Int) (n e:Int):Int:=if (l.length:Int)<n/\e=0 then 3 else e
theorem ES (a b:List Int):tkB (a++b) a.length=a:=by
 unfold tkB;rw[if_pos (by simp;omega)];simp
theorem EP (a b:List Int):tkL (a++b) a.length=b:=by
 unfold tkL;simp
theorem ER (a b:List Int) (e:Int):tkE (a++b) a.length e=e:=by
 unfold tkE;rw[if_neg (by simp;omega)]
theorem yd {a b:List Int} (d:Byt a) (G:Byt b):Byt (a++b):=by
 intro i;by_cases h:i<a.length
 ·have:=d i;rw[List.getD_eq_getElem?_getD] at this ⊢;rw[List.getElem?_append_left h];exact this
 ·have:=G (i-a.length);rw[List.getD_eq_getElem?_getD] at this ⊢;rw[List.getElem?_append_right τ];exact this
theorem zl {w:World} {R:Nat} {l:List Int} {e:Int} {C:Nat->Prop} (h:qr w R l e C):
  Calls prog 57 #[γ R] w λG w'=>G= .returned (ι l.length)/\w'=w:=by
 obtain⟨⟨v,d,⟨I,cap,rfl,_⟩,_⟩,_⟩:=h;have H:=β0 d;clear d
 go_enter func57,ntmps57
 go_wp2;go_ret;exact⟨rfl,rfl⟩
theorem LZ (v:Value) (l:List Int) (w:World) (U:SlI .u8 w v l) (N:Byt l) (H:l.length<=1000000):
  Calls prog 51 #[v] w λe w'=> ∃R,e= .returned (γ R)/\w.heap.size<=R/\qr w' R l 0/\qa w w':=by
 go_enter func51,ntmps51
 go_wp2_with (go_at_call 50;refine(wk v l w U H).mono ?_;rintro e w2 ⟨ac,rfl,d,I⟩;have J:=κ d;have G:=κ I;obtain⟨ab,aa,Y,rfl,O⟩:=qU d;clear d I O)
 go_ret;exact⟨_,rfl,G.o.size,⟨⟨_,qk _ _,(SlI.of_owns J.o τ).keep (qa.alloc _ _),λ_ _ _=>trivial⟩,H,N,λh=>absurd rfl h⟩,G.o.al _⟩
theorem kr (v:Value) (l:List Int) (w:World) (U:SlI .u8 w v l) (N:Byt l) (I:l.length<=1000000):
  Calls prog 51 #[v] w λe w'=> ∃R,e= .returned (γ R)/\w.heap.size<=R/\qr w' R l 0 (λg=>w.heap.size<=g/\g<w'.heap.size)/\qa w w':=by
 go_enter func51,ntmps51
 go_wp2_with (go_at_call 50;refine(wk v l w U I).mono ?_;rintro e w2 ⟨ac,rfl,G,J⟩;have d:=κ G;have H:=κ J;obtain⟨ab,aa,Y,rfl,O⟩:=qU G;clear G J O)
 go_ret;exact⟨_,rfl,H.o.size,⟨⟨_,qk _ _,(SlI.of_owns d.o τ).keep (qa.alloc _ _),λ_ g y=>⟨jD d.o y,Nat.lt_of_lt_of_le (gI d.o y) (qa.alloc _ _).size⟩⟩,I,N,λh=>absurd rfl h⟩,H.o.al _⟩
theorem gh {w:World} {R:Nat} {l:List Int} {e:Int} {C:Nat->Prop} (h:qr w R l e C) (x:Int) (d:x=0∨(¬x=0/\ ¬e=0)):
  Calls prog 55 #[γ R,ι x] w λH w'=>H= .returned (.tuple #[])/\w'=w:=by
 obtain⟨⟨v,G,I,J⟩,_⟩:=h;have c1:=β1 G;clear G I J;rcases d with d | ⟨d,he⟩
 ·subst d
  go_enter func55,ntmps55
  go_wp2;refine bodyPost_ret (v:= .tuple #[]) ?rr rfl ?_
  case rr=>simp[results,results55,go_sem]
  exact⟨rfl,rfl⟩
 ·have N:(x==0)=false:=by simpa using d
  have O:(e != 0)=true:=by simpa using he
  go_enter func55,ntmps55
  go_wp2;refine bodyPost_ret (v:= .tuple #[]) ?rr rfl ?_
  case rr=>simp[results,results55,go_sem]
  exact⟨rfl,rfl⟩
theorem Jl {w:World} {R:Nat} {l:List Int} {C:Nat->Prop} (h:qr w R l 0 C) (x:Int) (I: ¬x=0):
  Calls prog 55 #[γ R,ι x] w λH w'=>H= .returned (.tuple #[])/\qr w' R [] x C/\qg (λb=>b=R) w w':=by
 obtain⟨⟨v,d,⟨Y,cap,rfl,_⟩,_⟩,_⟩:=h;have J:=β0 d;have c1:=β1 d;have N:=qd d 0;have O:=qd d 1;have G:=κ d;have U:(x==0)=false:=by simpa using I
 clear d
 go_enter func55,ntmps55
 go_wp2;refine bodyPost_end (v:= .tuple #[]) ?rr rfl ?_
 case rr=>simp[results,results55,go_sem]
 exact⟨rfl,⟨⟨_,qA (qo (qo G.o 1 _) 0 _) rfl,SlI.nil _ _,λx=>absurd rfl x⟩,η,xf,λ_=>rfl⟩,((qg.refl (λb=>b=R) w).set (p:=⟨R,1,none⟩) rfl _).set (p:=⟨R,0,none⟩) rfl _⟩
theorem Ws {w:World} {R:Nat} {l:List Int} {e:Int} (n:Int) (G:n<=0) {C:Nat->Prop} (h:qr w R l e C):
  Calls prog 110 #[γ R,ι n] w λd w'=>d= .returned (δ none 0 0)/\w'=w:=by
 clear h
 go_enter func110,ntmps110
 go_wp2;go_ret;exact⟨rfl,rfl⟩
theorem Vh {w:World} {R:Nat} {l:List Int} {e:Int} (n:Int) (Y:0<n) (O:(l.length:Int)<n) {C:Nat->Prop} (h:qr w R l e C):
  Calls prog 110 #[γ R,ι n] w λJ w'=>J= .returned (δ none 0 0)/\qr w' R [] (tkE l n e) C/\qg (λb=>b=R) w w':=by
 have d:=κ h;obtain⟨⟨v,G,⟨aa,cap,rfl,_⟩,_⟩,_⟩:=h;have U:=β0 G;clear G;by_cases he:e=0
 ·subst he
  go_enter func110,ntmps110
  go_wp2_with (go_at_call 55;refine(Jl d.o 3 ζ).mono ?_;rintro e w2 ⟨rfl,N,I⟩)
  go_ret;refine⟨rfl, ?_,I⟩;have:tkE l n 0=3:=by unfold tkE;rw[if_pos ⟨O,rfl⟩]
  rw[this];exact N
 ·go_enter func110,ntmps110
  go_wp2_with (go_at_call 55;refine(gh d.o 3 (Or.inr ⟨ζ,he⟩)).mono ?_;rintro e w2 ⟨rfl,rfl⟩)
  go_ret;have H:=d.o;have:tkE l n e=e:=by unfold tkE;rw[if_neg (λx=>he x.2)]
  rw[this];obtain rfl:=H.shut he;exact⟨rfl,H,qg.refl _ _⟩
theorem Ci {d:Option Addr} {c n g m G k k':Nat} (h:(δ (if c=n then d else d.map (·.add n)) m k).ownBlock=some g):(δ d G k').ownBlock=some g:=by
 by_cases e:c=n
 ·rw[if_pos e] at h;cases d<;>exact h
 ·rw[if_neg e] at h;cases d with
  | none=>exact h
  | some a=>
   simp only[Option.map_some,Value.ownBlock] at h ⊢;rw[<-h];unfold Addr.add;split<;>rfl
theorem KJ {w:World} {R:Nat} {l:List Int} {e:Int} (n:Nat) (ay:0<n) (ac:n<=l.length) {C:Nat->Prop} (h:qr w R l e C):
  Calls prog 110 #[γ R,ι n] w λak w'=> ∃v',ak= .returned v'/\SlI .u8 w' v' (l.take n)/\qr w' R (l.drop n) e C/\qg (λb=>b=R) w w':=by
 have au:=κ h;have af:=λo x=>Kn h o x
 have aj:=κ af;obtain⟨⟨v,H,Y,ab⟩,ax,am,aa⟩:=h;have ai:=κ ab;clear ab;have ag:=κ H;have O:=κ Y;obtain⟨N,cap,rfl,an,ao,ap,aq,ar⟩:=Y;have av:=β0 H;have aw:=qd H 0;have aB: ¬(l.length:Int)<(n:Int):=by omega
 have az:(n:Int)<=(cap:Int):=by omega
 have aC:(n:Int)<=(l.length:Int):=by omega
 have aA:(0:Int)<=(n:Int):=by omega
 have ah:=κ aa;clear H an ao ap aq ar aa af;have ae: ∀G d,(G=if cap=n then N else N.map (·.add n))->d=cap-n-> ∃v',Ending.returned (δ N n n)= .returned v'/\SlI .u8 (w.setCell ⟨R,0,none⟩ (δ G (l.length-n) d)) v' (l.take n)/\qr (w.setCell ⟨R,0,none⟩ (δ G (l.length-n) d)) R (l.drop n) e C/\qg (λb=>b=R) w (w.setCell ⟨R,0,none⟩ (δ G (l.length-n) d)):=by
  intro G d U al;have I:qg (λb=>b=R) w (w.setCell ⟨R,0,none⟩ (δ G (l.length-n) d)):=(qg.refl (λb=>b=R) w).set (p:=⟨R,0,none⟩) rfl _;have ad: ∀b,b=R-> ∀o x,w.cell? ⟨b,o,none⟩≠some (υ x):=by rintro b rfl;exact aj.o
  subst al;exact⟨_,rfl,((O.o.take3 n ac).away I ad),⟨⟨_,qA (qo ag.o 0 _) rfl,(O.o.from_ n ac _ U).away I ad,λx g y=>ai.o (λz=>x (by rw[z];simp)) g (by subst U;exact Ci y)⟩,by simp;omega,am.drop n,λx=>by rw[ah.o x];simp⟩,I⟩
 have J:=κ ae;clear ae
 go_enter func110,ntmps110
 go_wp2
 all_goals (go_ret;first | exact J.o _ _ rfl rfl | exact J.o _ _ (by rw[if_pos τ]) τ | exact J.o _ _ (by rw[if_neg τ]) rfl)
theorem ub {w:World} {R:Nat} {l:List Int} {e:Int} (n:Int) {C:Nat->Prop} (h:qr w R l e C):
  Calls prog 110 #[γ R,ι n] w λH w'=> ∃v',H= .returned v'/\SlI .u8 w' v' (tkB l n)/\qr w' R (tkL l n) (tkE l n e) C/\qg (λb=>b=R) w w':=by
 by_cases h0:n<=0
 ·refine(Ws n h0 h).mono ?_;rintro H w' ⟨rfl,rfl⟩;have O:n.toNat=0:=by omega
  have d:tkB l n=[]:=by unfold tkB;rw[O];split<;>simp
  have J:tkE l n e=e:=by unfold tkE;rw[if_neg τ]
  have G:tkL l n=l:=by unfold tkL;rw[O];simp
  rw[d,J,G];exact⟨_,rfl,SlI.nil _ _,h,qg.refl _ _⟩
 ·by_cases h1:(l.length:Int)<n
  ·refine(Vh n τ h1 h).mono ?_;rintro H w' ⟨rfl,N,I⟩;have d:tkB l n=[]:=by unfold tkB;rw[if_neg τ]
   have G:tkL l n=[]:=by unfold tkL;exact List.drop_eq_nil_of_le τ
   rw[d,G];exact⟨_,rfl,SlI.nil _ _,N,I⟩
  ·obtain⟨k,rfl⟩: ∃k:Nat,n=k:=⟨n.toNat,τ⟩;refine(KJ k τ τ h).mono ?_;rintro H w' ⟨v',rfl,N,U,I⟩;have d:tkB l k=l.take k:=by unfold tkB;rw[if_pos τ];simp
   have G:tkL l k=l.drop k:=by unfold tkL;simp
   have J:tkE l k e=e:=by unfold tkE;rw[if_neg τ]
   rw[d,J,G];exact⟨_,rfl,N,U,I⟩
theorem jI {l:List Int} (h:Byt l) (n:Int):Byt (tkB l n):=by
 unfold tkB;split
 ·exact h.take _
 ·exact xf
theorem zf (l:List Int) (n:Int) (d:0<=n):((tkB l n).length:Int)<=n:=by
 unfold tkB;split
 ·rw[List.length_take];omega
 ·exact d
theorem zv (l:List Int) (k:Nat) (h:Byt l) (H:(l.length:Int)<=k) (G:k<=8):0<=num l/\num l<2 ^ (8* k):=by
 have d:=YJ l h;rw[uG l h τ];refine⟨d.1,Int.lt_of_lt_of_le d.2 ?_⟩;have:2 ^ (8* l.length)<=2 ^ (8* k):=Nat.pow_le_pow_right ζ τ
 exact_mod_cast this
theorem Zp {w:World} {R:Nat} {l:List Int} {e:Int} {C:Nat->Prop} (h:qr w R l e C) (n:Nat) (ad:n<=1):
  Calls prog 109 #[.func (.func 110) #[γ R] #[],ι n] w λO w'=>O= .returned (υ (num (tkB l n)))/\qr w' R (tkL l n) (tkE l n e) C/\qg (λb=>b=R) w w':=by
 have H:=jI h.byt n;have d:=zv (tkB l n) n H (zf l n τ) τ;have I:(2:Int) ^ (8* n)<=2 ^ (8* 1):=by
  have:2 ^ (8* n)<=2 ^ (8* 1):=Nat.pow_le_pow_right ζ τ
  exact_mod_cast this
 have J:IntKind.u8.wrap (num (tkB l n))=num (tkB l n):=Int.emod_eq_of_lt d.1 (Int.lt_of_lt_of_le d.2 I);have G:=κ J;clear J d I
 go_enter func109,ntmps109
 go_wp2_with first | (go_at_call 110;refine(ub n h).mono ?_;rintro ab w1 ⟨aa,rfl,Y,U,N⟩) | (go_at_call 167;refine(gi _ aa _ Y H).mono ?_;rintro ac w2 ⟨rfl,rfl⟩)
 go_ret;exact⟨by first | exact xU G.o | rfl | exact congrArg _ (by rw[G.o]),U,N⟩
theorem Jx {w:World} {R:Nat} {l:List Int} {e:Int} {C:Nat->Prop} (h:qr w R l e C) (n:Nat) (ad:n<=2):
  Calls prog 111 #[.func (.func 110) #[γ R] #[],ι n] w λO w'=>O= .returned (φ (num (tkB l n)))/\qr w' R (tkL l n) (tkE l n e) C/\qg (λb=>b=R) w w':=by
 have H:=jI h.byt n;have d:=zv (tkB l n) n H (zf l n τ) τ;have I:(2:Int) ^ (8* n)<=2 ^ (8* 2):=by
  have:2 ^ (8* n)<=2 ^ (8* 2):=Nat.pow_le_pow_right ζ τ
  exact_mod_cast this
 have J:IntKind.u16.wrap (num (tkB l n))=num (tkB l n):=Int.emod_eq_of_lt d.1 (Int.lt_of_lt_of_le d.2 I);have G:=κ J;clear J d I
 go_enter func111,ntmps111
 go_wp2_with first | (go_at_call 110;refine(ub n h).mono ?_;rintro ab w1 ⟨aa,rfl,Y,U,N⟩) | (go_at_call 167;refine(gi _ aa _ Y H).mono ?_;rintro ac w2 ⟨rfl,rfl⟩)
 go_ret;exact⟨by first | exact xU G.o | rfl | exact congrArg _ (by rw[G.o]),U,N⟩
theorem uh {w:World} {R:Nat} {l:List Int} {e:Int} {C:Nat->Prop} (h:qr w R l e C) (n:Nat) (ad:n<=4):
  Calls prog 112 #[.func (.func 110) #[γ R] #[],ι n] w λO w'=>O= .returned (ω (num (tkB l n)))/\qr w' R (tkL l n) (tkE l n e) C/\qg (λb=>b=R) w w':=by
 have H:=jI h.byt n;have d:=zv (tkB l n) n H (zf l n τ) τ;have I:(2:Int) ^ (8* n)<=2 ^ (8* 4):=by
  have:2 ^ (8* n)<=2 ^ (8* 4):=Nat.pow_le_pow_right ζ τ
  exact_mod_cast this
 have J:IntKind.u32.wrap (num (tkB l n))=num (tkB l n):=Int.emod_eq_of_lt d.1 (Int.lt_of_lt_of_le d.2 I);have G:=κ J;clear J d I
 go_enter func112,ntmps112
 go_wp2_with first | (go_at_call 110;refine(ub n h).mono ?_;rintro ab w1 ⟨aa,rfl,Y,U,N⟩) | (go_at_call 167;refine(gi _ aa _ Y H).mono ?_;rintro ac w2 ⟨rfl,rfl⟩)
 go_ret;exact⟨by first | exact xU G.o | rfl | exact congrArg _ (by rw[G.o]),U,N⟩
theorem jP {w:World} {R:Nat} {l:List Int} {e:Int} {C:Nat->Prop} (h:qr w R l e C):
  Calls prog 52 #[γ R] w λG w'=>G= .returned (υ (num (tkB l 1)))/\qr w' R (tkL l 1) (tkE l 1 e) C/\qg (λb=>b=R) w w':=by
 go_enter func52,ntmps52
 go_wp2_with (go_at_call 109;refine(Zp h 1 ζ).mono ?_;rintro I w1 ⟨rfl,H,d⟩)
 go_ret;exact⟨rfl,H,d⟩
theorem xm {w:World} {R:Nat} {l:List Int} {e:Int} {C:Nat->Prop} (h:qr w R l e C):
  Calls prog 53 #[γ R] w λG w'=>G= .returned (φ (num (tkB l 2)))/\qr w' R (tkL l 2) (tkE l 2 e) C/\qg (λb=>b=R) w w':=by
 go_enter func53,ntmps53
 go_wp2_with (go_at_call 111;refine(Jx h 2 ζ).mono ?_;rintro I w1 ⟨rfl,H,d⟩)
 go_ret;exact⟨rfl,H,d⟩
theorem Jm {w:World} {R:Nat} {l:List Int} {e:Int} {C:Nat->Prop} (h:qr w R l e C):
  Calls prog 328 #[γ R] w λG w'=>G= .returned (ω (num (tkB l 3)))/\qr w' R (tkL l 3) (tkE l 3 e) C/\qg (λb=>b=R) w w':=by
 go_enter func328,ntmps328
 go_wp2_with (go_at_call 112;refine(uh h 3 ζ).mono ?_;rintro I w1 ⟨rfl,H,d⟩)
 go_ret;exact⟨rfl,H,d⟩
theorem jz {w:World} {R:Nat} {l:List Int} {e:Int} {C:Nat->Prop} (h:qr w R l e C):
  Calls prog 54 #[γ R] w λG w'=>G= .returned (ω (num (tkB l 4)))/\qr w' R (tkL l 4) (tkE l 4 e) C/\qg (λb=>b=R) w w':=by
 go_enter func54,ntmps54
 go_wp2_with (go_at_call 112;refine(uh h 4 ζ).mono ?_;rintro I w1 ⟨rfl,H,d⟩)
 go_ret;exact⟨rfl,H,d⟩
theorem Vs (l:List Int) (n:Int):(tkB l n).length<=l.length:=by
 unfold tkB;split
 ·rw[List.length_take];omega
 ·simp
theorem kA {w:World} {base d e size n:Nat} {v:Value} {xs:List Value} (h:w.ownsRow base e size v n xs) (I:d<=base):w.ownsRow d e size v n xs:=by
 obtain⟨G,H⟩:=h;refine⟨G, ?_⟩;rcases H with h | ⟨b,cap,cur,e1,hb',rest⟩
 ·exact Or.inl h
 ·exact Or.inr ⟨b,cap,cur,e1,Nat.le_trans I hb',rest⟩
theorem QQ {w:World} {R:Nat} {l:List Int} {e:Int} (n:Int) {C:Nat->Prop} (h:qr w R l e C):
  Calls prog 56 #[γ R,ι n] w λH w'=> ∃v',H= .returned v'/\w'.ownsRow w.heap.size 5 1 v' (tkB l n).length ((tkB l n).map (Value.int .u8))/\qr w' R (tkL l n) (tkE l n e) C/\qg (λb=>b=R) w w':=by
 have ab:=Vs l n;have aa:=h.small
 go_enter func56,ntmps56
 go_wp2_with first | (go_at_call 110;refine(ub n h).mono ?_;rintro U w1 ⟨O,rfl,N,I,d⟩) | (go_at_call 50;refine(wk O _ _ N τ).mono ?_;rintro Y w2 ⟨ac,rfl,J,G⟩)
 go_ret;exact⟨_,rfl,kA J d.size,I.more G,d.more G⟩
theorem yY {w:World} {R:Nat} {l:List Int} {e:Int} {C:Nat->Prop} (h:qr w R l e C):
  Calls prog 59 #[γ R] w λG w'=>G= .returned (ι (if ¬e=0 then e else if 0<l.length then 4 else 0))/\w'=w:=by
 obtain⟨⟨v,d,⟨O,cap,rfl,_⟩,_⟩,_,_,J⟩:=h;have I:=β0 d;have c1:=β1 d;clear d;by_cases he:e=0
 ·subst he;by_cases hl:0<l.length
  ·have H:(0:Int)<(l.length:Int):=by omega
   go_enter func59,ntmps59
   go_wp2;go_ret;simp[hl]
  ·have H: ¬(0:Int)<(l.length:Int):=by omega
   go_enter func59,ntmps59
   go_wp2;go_ret;simp[hl]
 ·have N:(e != 0)=true:=by simpa using he
  go_enter func59,ntmps59
  go_wp2;go_ret;simp[he]
end
section
open _root_.Go.Proofs.Tryz
set_option maxHeartbeats 8000000
abbrev U16 (n:Int):Prop:=0<=n/\n<=65535
theorem qI (n s:Int) (d:0<=s/\s<=8):(qx n s).length=s.toNat:=by
 rw[gY n s d,zQ]
theorem Xn (x:Int) (k:Nat) (H:0<=x) (G:k<=8) (h:x<2 ^ (8* k)):num (qx x k)=x:=by
 have d:qx x k=bys x k:=by rw[gY _ _ τ];simp
 rw[d,uG _ (JP _ _) (by rw[zQ];exact G),VI];exact Int.emod_eq_of_lt H h
theorem uO {l:List Int} {n:Int} (d:0<=n) (h:n<=l.length):l=tkB l n++tkL l n/\((tkB l n).length:Int)=n:=by
 unfold tkB tkL;rw[if_pos h];refine⟨(List.take_append_drop _ _).symm, ?_⟩;rw[List.length_take];omega
theorem gZ {l:List Int} (h:Byt l) (k:Nat) (H:(l.length:Int)=k) (G:k<=8):qx (num l) k=l:=by
 have d:l.length=k:=by omega
 rw[gY _ _ τ];simp only[Int.toNat_natCast];rw[<-d];exact F0 l h τ
abbrev RdS:=List Int×Int
def wrS (s:RdS) (x:Int):RdS:=if x=0∨ ¬s.2=0 then s else ([],x)
def tkS (s:RdS) (n:Int):RdS:=(tkL s.1 n,tkE s.1 n s.2)
theorem zn {w:World} {R:Nat} {s:RdS} {C:Nat->Prop} (h:qr w R s.1 s.2 C) (x:Int):
  Calls prog 55 #[γ R,ι x] w λd w'=>d= .returned (.tuple #[])/\qr w' R (wrS s x).1 (wrS s x).2 C/\qg (λb=>b=R) w w':=by
 obtain⟨l,e⟩:=s;simp only at h;by_cases hx:x=0
 ·refine(gh h x (Or.inl hx)).mono ?_;rintro d w' ⟨rfl,rfl⟩;have:wrS (l,e) x=(l,e):=by unfold wrS;rw[if_pos (Or.inl hx)]
  rw[this];exact⟨rfl,h,qg.refl _ _⟩
 ·by_cases he:e=0
  ·subst he;refine(Jl h x hx).mono ?_;rintro d w' ⟨rfl,H,G⟩;have:wrS (l,0) x=([],x):=by unfold wrS;rw[if_neg (by simp[hx])]
   rw[this];exact⟨rfl,H,G⟩
  ·refine(gh h x (Or.inr ⟨hx,he⟩)).mono ?_;rintro d w' ⟨rfl,rfl⟩;have:wrS (l,e) x=(l,e):=by unfold wrS;rw[if_pos (Or.inr he)]
   rw[this];exact⟨rfl,h,qg.refl _ _⟩
abbrev U32 (n:Int):Prop:=0<=n/\n<=4294967295
def adv (s:RdS) (n:Nat):RdS:=if s.2=0 then (if n<=s.1.length then (s.1.drop n,0) else ([],3)) else ([],s.2)
def Ju (s:RdS):Prop:= ¬s.2=0->s.1=[]
theorem gE {s:RdS} (n:Nat) (h:Ju s):tkS s n=adv s n:=by
 obtain⟨l,e⟩:=s;unfold tkS adv tkL tkE;simp only[Int.toNat_natCast];by_cases he:e=0
 ·subst he;rw[if_pos rfl];by_cases hn:n<=l.length
  ·rw[if_pos hn,if_neg τ]
  ·rw[if_neg hn,if_pos τ,List.drop_eq_nil_of_le τ]
 ·have d:l=[]:=h he;subst d;rw[if_neg he,if_neg (λx=>he x.2)];simp
theorem vw (s:RdS) (n:Nat):Ju (adv s n):=by
 unfold Ju adv;split
 ·split
  ·intro h;exact absurd rfl h
  ·intro _;rfl
 ·intro _;rfl
theorem gN (s:RdS) (a b:Nat):adv (adv s a) b=adv s (a+b):=by
 obtain⟨l,e⟩:=s;unfold adv;simp only;by_cases he:e=0
 ·subst he;simp only[if_true];by_cases ha:a<=l.length
  ·rw[if_pos ha];simp only[if_true,List.length_drop,List.drop_drop];by_cases hb:a+b<=l.length
   ·rw[if_pos τ,if_pos hb]
   ·rw[if_neg τ,if_neg hb]
  ·rw[if_neg ha];simp;omega
 ·rw[if_neg he,if_neg he];simp[he]
theorem xE {s:RdS} (a b:Nat):tkS (adv s a) b=adv s (a+b):=by rw[gE b (vw s a),gN]
theorem Eb {s:RdS} (h:Ju s):adv s 0=s:=by
 obtain⟨l,e⟩:=s;unfold adv;by_cases he:e=0
 ·subst he;simp
 ·have d:l=[]:=h he;subst d;simp[he]
theorem QP (x:Int):qx (x%16777216) 3=qx x 3:=by
 have h: ∀j,j<3->by8 (x%16777216) j=by8 x j:=by
  intro j d;unfold by8
  match j,d with
  | 0,_=>simp
  | 1,_=>simp;omega
  | 2,_=>simp;omega
 show [by8 (x%16777216) 2,by8 (x%16777216) 1,by8 (x%16777216) 0]=[by8 x 2,by8 x 1,by8 x 0];rw[h 0 ζ,h 1 ζ,h 2 ζ]
theorem Xf (x:Int) (k:Nat) (G:k<=8) (r:List Int):tkS (qx x k++r,0) k=(r,0)/\tkB (qx x k++r) k=qx x k:=by
 have d:((qx x k).length:Int)=k:=by rw[qI _ _ τ];simp
 have a:=ES (qx x k) r;have b:=EP (qx x k) r;have c:=ER (qx x k) r 0;rw[d] at a b c;unfold tkS;simp only[a,b,c,and_self]
theorem wW (k:Nat) (G:k<=8) {L:List Int} (d:Byt L) (h:k<=L.length): ∃x r,L=qx x k++r/\0<=x/\x<2 ^ (8* k)/\Byt r:=by
 obtain⟨j,q⟩:=uO (l:=L) (n:=(k:Int)) τ τ;have H:=zv (tkB L k) k (jI d k) τ G;refine⟨num (tkB L k),tkL L k, ?_,H.1,H.2,d.drop _⟩;rw[gZ (jI d k) k q G];exact j
theorem xu {L:List Int} (J:Byt L) (h:4<=L.length): ∃x r,L=qx x 4++r/\U32 x/\Byt r:=by
 obtain⟨x,r,G,H,d,I⟩:=wW 4 ζ J h;have d:x<4294967296:=d;exact⟨x,r,G,⟨H,τ⟩,I⟩
end
section
set_option maxHeartbeats 8000000
structure Pk where
 mr:Bool
 ty:Int
 sq:Int
 st:Int
 sc:Int
 ss:List Int
 has:Bool
 pr:Int
 ex:List Int
 pl:List Int
def pk0:Pk:=⟨false,0,0,0,0,[],false,0,[],[]⟩
structure wP (p:Pk):Prop where
 ty:0<=p.ty/\p.ty<=255
 sq:U16 p.sq
 st:U32 p.st
 sc:U32 p.sc
 ss: ∀i,U32 (p.ss.getD i 0)
 pr:U16 p.pr
 ex:Byt p.ex
 pl:Byt p.pl
def ww (p:Pk):Int:=12+4* (p.ss.length:Int)+(p.pl.length:Int)+if p.has then 4+(p.ex.length:Int) else 0
def jM (p:Pk):Bool:=decide (p.ty<=127)&&decide ((p.ss.length:Int)<=15)&&(p.has||(decide (p.pr=0)&&decide (p.ex=[])))&&decide ((p.ex.length:Int)%4=0)&&decide (ww p<=200)
theorem yu (p:Pk):jM p=true↔p.ty<=127/\(p.ss.length:Int)<=15/\(p.has=false->p.pr=0/\p.ex=[])/\(p.ex.length:Int)%4=0/\ww p<=200:=by
 unfold jM;cases h:p.has<;>simp[and_assoc]
def Ey (p:Pk):Int:=128+(p.ss.length:Int)+if p.has then 16 else 0
def Eu (p:Pk):Int:=p.ty+if p.mr then 128 else 0
def ssB (l:List Int):List Int:=l.flatMap λx=>qx x 4
theorem Bu (l:List Int) (x:Int):ssB (l++[x])=ssB l++qx x 4:=by simp[ssB]
theorem WV (l:List Int):(ssB l).length=4* l.length:=by
 induction l with
 | nil=>rfl
 | cons x l ih=>
  show (qx x 4++ssB l).length=_;rw[List.length_append,ih,qI _ _ ζ,List.length_cons];show 4+4* l.length=_;omega
def EB (p:Pk):List Int:=qx (Ey p) 1++qx (Eu p) 1++qx p.sq 2++qx p.st 4++qx p.sc 4
def Ix (p:Pk):List Int:=qx p.pr 2++qx ((p.ex.length:Int)/4) 2++p.ex
def DQ (p:Pk):List Int:=EB p++ssB p.ss++if p.has then Ix p else []
def pkB (p:Pk):List Int:=DQ p++p.pl
def j6:Nat->RdS->List Int×RdS
 | 0,s=>([],s)
 | n+1,s=>((j6 n s).1++[num (tkB (j6 n s).2.1 4)],tkS (j6 n s).2 4)
def xN (b:List Int):List Int×Bool:=
 if b=[] then ([],false) else if b.getD (b.length-1) 0=0∨(b.length:Int)<b.getD (b.length-1) 0 then ([],false) else (b.take (b.length-(b.getD (b.length-1) 0).toNat),true)
def vE (f:Int) (s:RdS):List Int×Int:=
 if ¬s.2=0 then ([],s.2) else if f/32%2=1 then (if (xN s.1).2 then ((xN s.1).1,0) else ([],2)) else (s.1,0)
def Qt (s:RdS):(Int×List Int)×RdS:=((num (tkB s.1 2),tkB (tkS (tkS s 2) 2).1 (4* num (tkB (tkS s 2).1 2))),tkS (tkS (tkS s 2) 2) (4* num (tkB (tkS s 2).1 2)))
def yo (f:Int) (s:RdS):(List Int×Int×List Int)×RdS:=
 if f/16%2=1 then (((j6 (f%16).toNat s).1,(Qt (j6 (f%16).toNat s).2).1.1,(Qt (j6 (f%16).toNat s).2).1.2),(Qt (j6 (f%16).toNat s).2).2)
 else (((j6 (f%16).toNat s).1,0,[]),(j6 (f%16).toNat s).2)
def s1H (b:List Int):RdS:=tkS (b,0) 1
def s2H (b:List Int):RdS:=tkS (s1H b) 1
def s3H (b:List Int):RdS:=tkS (s2H b) 2
def s4H (b:List Int):RdS:=tkS (s3H b) 4
def s5H (b:List Int):RdS:=tkS (s4H b) 4
def yz (f:Int) (s:RdS):RdS:=if f<128∨191<f then wrS s 2 else s
def fH (b:List Int):Int:=num (tkB b 1)
def gH (b:List Int):Int:=num (tkB (s1H b).1 1)
def mkH (b:List Int) (x:List Int×Int×List Int) (l:List Int):Pk:=
 ⟨decide (128<=gH b),gH b%128,num (tkB (s2H b).1 2),num (tkB (s3H b).1 4),num (tkB (s4H b).1 4),x.1,decide (fH b/16%2=1),x.2.1,x.2.2,l⟩
def Zh (b:List Int) (x:(List Int×Int×List Int)×RdS):Pk×Int:=
 if (vE (fH b) x.2).2=0 then (mkH b x.1 (vE (fH b) x.2).1,0) else (pk0,(vE (fH b) x.2).2)
def xk (b:List Int):Pk×Int:=
 if (200:Int)<b.length then (pk0,4) else Zh b (yo (fH b) (yz (fH b) (s5H b)))
theorem WX (b:List Int):s5H b=adv (b,0) 12:=by
 have h:Ju (b,0):=λh=>absurd rfl h
 show tkS (tkS (tkS (tkS (tkS (b,0) (1:Nat)) (1:Nat)) (2:Nat)) (4:Nat)) (4:Nat)=_;rw[gE 1 h,xE,xE,xE,xE]
theorem gU: ∀(n:Nat) (s:RdS),(j6 n s).1.length=n
 | 0,_=>rfl
 | n+1,s=>by
  show ((j6 n s).1++[_]).length=_;rw[List.length_append,gU n];rfl
theorem WQ (e n:Int) (h: ¬e=0):tkS ([],e) n=([],e):=by
 unfold tkS;rw[tkL_nil',tkE_bad h]
where
 tkL_nil':tkL ([]:List Int) n=[]:=by unfold tkL;simp
 tkE_bad (he: ¬e=0):tkE [] n e=e:=by unfold tkE;rw[if_neg (λx=>he x.2)]
theorem Xk (e:Int) (h: ¬e=0): ∀n,(j6 n ([],e)).2=([],e)
 | 0=>rfl
 | n+1=>by
  show tkS (j6 n ([],e)).2 4=_;rw[Xk e h n,WQ e 4 h]
theorem Pi (f e:Int) (h: ¬e=0):(yo f ([],e)).2=([],e):=by
 unfold yo Qt;split
 ·simp only[Xk e h,WQ e _ h]
 ·simp only[Xk e h]
theorem V8 (b:List Int) (f e:Int) (h: ¬e=0):Zh b (yo f ([],e))=(pk0,e):=by
 have d:vE (fH b) (yo f ([],e)).2=([],e):=by
  rw[Pi f e h];unfold vE;rw[if_pos h]
 unfold Zh;rw[d];simp only;rw[if_neg h]
def KZ (b:List Int):Pk×Int:=
 if (200:Int)<b.length then (pk0,4) else if (b.length:Int)<12 then (pk0,3) else if fH b<128∨191<fH b then (pk0,2) else Zh b (yo (fH b) (b.drop 12,0))
theorem Pp (b:List Int):KZ b=xk b:=by
 unfold KZ xk;by_cases h1:(200:Int)<b.length
 ·rw[if_pos h1,if_pos h1]
 rw[if_neg h1,if_neg h1];have d:s5H b=if 12<=b.length then (b.drop 12,0) else ([],3):=by
  rw[WX];unfold adv;simp
 by_cases h2:(b.length:Int)<12
 ·rw[if_pos h2];rw[if_neg τ] at d;have:yz (fH b) ([],3)=([],3):=by unfold yz wrS;simp
  rw[d,this,V8 b _ 3 ζ]
 rw[if_neg h2];rw[if_pos τ] at d;rw[d];by_cases h3:fH b<128∨191<fH b
 ·rw[if_pos h3];have:yz (fH b) (b.drop 12,0)=([],2):=by unfold yz wrS;rw[if_pos h3];simp
  rw[this,V8 b _ 2 ζ]
 ·rw[if_neg h3];have:yz (fH b) (b.drop 12,0)=(b.drop 12,0):=by unfold yz;rw[if_neg h3]
  rw[this]
theorem CO (p:Pk):(EB p).length=12:=by
 unfold EB;simp only[List.length_append,qI _ 1 ζ,qI _ 2 ζ,qI _ 4 ζ]
 decide
theorem Cb (p:Pk):((DQ p).length:Int)=12+4* (p.ss.length:Int)+if p.has then 4+(p.ex.length:Int) else 0:=by
 unfold DQ;rw[List.length_append,List.length_append,CO,WV];cases p.has
 ·simp
 ·simp only[if_true,Ix,List.length_append,qI _ 2 ζ];show ((12+4* p.ss.length+(2+2+p.ex.length):Nat):Int)=_;omega
theorem Fp (p:Pk):((pkB p).length:Int)=ww p:=by
 unfold pkB ww;rw[List.length_append];have:=Cb p;omega
def Γh (x:Pk) (a:Option Addr) (b:Nat) (c:Option Addr) (d:Nat) (e:Option Addr) (f:Nat):Mm:=.o
instance (x:Pk) (a:Option Addr) (b:Nat) (c:Option Addr) (d:Nat) (e:Option Addr) (f:Nat):CoeDep Mm (Γh x a b c d e f) (List Value):=⟨[μ x.mr,υ x.ty,φ x.sq,ω x.st,ω x.sc,δ a x.ss.length b,μ x.has,φ x.pr,δ c x.ex.length d,δ e x.pl.length f]⟩
instance (x:Pk) (a:Option Addr) (b:Nat) (c:Option Addr) (d:Nat) (e:Option Addr) (f:Nat):CoeDep Mm (Γh x a b c d e f) (Array Value):=⟨((Γh x a b c d e f):List Value).toArray⟩
instance (x:Pk) (a:Option Addr) (b:Nat) (c:Option Addr) (d:Nat) (e:Option Addr) (f:Nat):CoeDep Mm (Γh x a b c d e f) Value:=⟨θ (Γh x a b c d e f)⟩
def Γi (k:Int) (l:Int) (n:Int) (x:Pk) (a:Option Addr) (b:Nat) (c:Option Addr) (d:Nat) (e:Option Addr) (f:Nat):Mm:=.o
instance (k:Int) (l:Int) (n:Int) (x:Pk) (a:Option Addr) (b:Nat) (c:Option Addr) (d:Nat) (e:Option Addr) (f:Nat):CoeDep Mm (Γi k l n x a b c d e f) (List Value):=⟨[ι k,ι l,ι n,μ x.mr,υ x.ty,φ x.sq,ω x.st,ω x.sc,δ a x.ss.length b,μ x.has,φ x.pr,δ c x.ex.length d,δ e x.pl.length f]⟩
instance (k:Int) (l:Int) (n:Int) (x:Pk) (a:Option Addr) (b:Nat) (c:Option Addr) (d:Nat) (e:Option Addr) (f:Nat):CoeDep Mm (Γi k l n x a b c d e f) (Array Value):=⟨((Γi k l n x a b c d e f):List Value).toArray⟩
instance (k:Int) (l:Int) (n:Int) (x:Pk) (a:Option Addr) (b:Nat) (c:Option Addr) (d:Nat) (e:Option Addr) (f:Nat):CoeDep Mm (Γi k l n x a b c d e f) Value:=⟨θ (Γi k l n x a b c d e f)⟩
def Γq (x:Pk) (a:Value) (b:Value) (c:Value):Mm:=.o
instance (x:Pk) (a:Value) (b:Value) (c:Value):CoeDep Mm (Γq x a b c) (List Value):=⟨[μ x.mr,υ x.ty,φ x.sq,ω x.st,ω x.sc,a,μ x.has,φ x.pr,b,c]⟩
instance (x:Pk) (a:Value) (b:Value) (c:Value):CoeDep Mm (Γq x a b c) (Array Value):=⟨((Γq x a b c):List Value).toArray⟩
instance (x:Pk) (a:Value) (b:Value) (c:Value):CoeDep Mm (Γq x a b c) Value:=⟨θ (Γq x a b c)⟩
def Γr (k:Int) (l:Int) (n:Int) (x:Pk) (a:Value) (b:Value) (c:Value):Mm:=.o
instance (k:Int) (l:Int) (n:Int) (x:Pk) (a:Value) (b:Value) (c:Value):CoeDep Mm (Γr k l n x a b c) (List Value):=⟨[ι k,ι l,ι n,μ x.mr,υ x.ty,φ x.sq,ω x.st,ω x.sc,a,μ x.has,φ x.pr,b,c]⟩
instance (k:Int) (l:Int) (n:Int) (x:Pk) (a:Value) (b:Value) (c:Value):CoeDep Mm (Γr k l n x a b c) (Array Value):=⟨((Γr k l n x a b c):List Value).toArray⟩
instance (k:Int) (l:Int) (n:Int) (x:Pk) (a:Value) (b:Value) (c:Value):CoeDep Mm (Γr k l n x a b c) Value:=⟨θ (Γr k l n x a b c)⟩
end
section
set_option maxHeartbeats 8000000
theorem Za {P:Program} {w:World} {o:Oper} {a:Act} {C:World->Prop} {K:Act->World->Prop} (s x:Operand) (t:TypeId)
  (al:o.op= .call {callee:= .builtin .append,args:= #[s,x],argTypes:= #[t,t]})
  (base:Nat) (e:TypeId) (i:TypeInfo) (z:Value) (bytes:Nat) (aq:P.underlying t=some (.slice e)) (hi:P.info? e=some i) (av:i.zero=some z)
  (ap:i.size=1) (af:i.bytes=bytes) (aw:z.cells.size=1)
  (v:Value) (k:IntKind) (l:List Int) (ao:a.eval s=v) (am:w.ownsRow base e 1 v l.length (l.map (Value.int k)))
  (G:Addr) (cap:Nat) (d:List Int) (au:a.eval x= δ (some G) d.length cap) (ai:SlI k w (δ (some G) d.length cap) d)
  (ag:(l.length+d.length)* bytes<=140737488355328) (ay:1<=bytes) (ae:base<=w.heap.size)
  (h: ∀v' w',w'.ownsRow base e 1 v' (l++d).length ((l++d).map (Value.int k))->w.grownBy w' v.ownBlock->(v'.ownBlock=v.ownBlock∨v'.ownBlock=some w.heap.size)->C w'/\K (a.put o.dst v') w'):jl P C o a w K:=by
 have ad:l.length+d.length<=maxLen:=by
  have:=Nat.le_mul_of_pos_right (l.length+d.length) (show 0<bytes by omega);unfold maxLen;omega
 obtain⟨aE,ax,O,az,aj,aA,aB,aC⟩:=ai;cases O
 obtain⟨v',w',an,aa,ab,_,ac⟩:=run_append_own_at (P:=P) w base t o.type e i z 1 bytes aq hi av ap af aw ζ v l.length (l.map (Value.int k)) am G d.length cap (d.map (Value.int k)) η (by
  intro j u I;rw[List.getElem?_map] at I;obtain⟨y,J,rfl⟩:=Option.map_eq_some_iff.1 I;obtain⟨ak,aD⟩:=List.getElem?_eq_some_iff.1 J;obtain⟨b,N,H,_,ah⟩:=aj j ak;simp only[Option.some.injEq] at H;subst H;have U:(⟨b,N,none⟩:Addr).add j=⟨b,N+j,none⟩:=by
   unfold Addr.add;split
   ·rename_i Y;subst Y;rfl
   ·rfl
  rw[U,ah,List.getD_eq_getElem?_getD,J];rfl) (by
  intro u ar;obtain⟨y,_,rfl⟩:=List.mem_map.1 ar
  rfl) ad ag ae
 unfold jl execOp;simp only[al,resolve,invoke,builtin,Sem.run_bind,Sem.run_pure,Result.andThen_ok,List.map_toArray,List.map_cons,List.map_nil,ao,au,an];exact h v' w' (by simpa using aa) ab ac
theorem XZ {P:Program} {w:World} {o:Oper} {a:Act} {C:World->Prop} {K:Act->World->Prop} (s x:Operand) (t:TypeId)
  (J:o.op= .call {callee:= .builtin .append,args:= #[s,x],argTypes:= #[t,t]})
  (base:Nat) (e:TypeId) (i:TypeInfo) (z:Value) (bytes:Nat) (O:P.underlying t=some (.slice e)) (hi:P.info? e=some i) (al:i.zero=some z)
  (ak:i.size=1) (ab:i.bytes=bytes) (am:z.cells.size=1)
  (v:Value) (k:IntKind) (l:List Int) (N:a.eval s=v) (G:w.ownsRow base e 1 v l.length (l.map (Value.int k)))
  (U:Value) (d:List Int) (H:a.eval x=U) (I:SlI k w U d)
  (ae:(l.length+d.length)* bytes<=140737488355328) (ac:1<=bytes) (aa:base<=w.heap.size)
  (h: ∀v' w',w'.ownsRow base e 1 v' (l++d).length ((l++d).map (Value.int k))->w.grownBy w' v.ownBlock->(v'.ownBlock=v.ownBlock∨v'.ownBlock=some w.heap.size)->C w'/\K (a.put o.dst v') w'):jl P C o a w K:=by
 have ag:=I;obtain⟨an,cap,rfl,ao,ap,aq,ar,ah⟩:=I;cases an with
 | some ad=>exact Za s x t J base e i z bytes O hi al ak ab am v k l N G ad cap d H ag ae ac aa h
 | none=>
  have Y:cap=0:=ah rfl;subst Y;have ai:d=[]:=List.eq_nil_of_length_eq_zero τ;subst ai;have aj:=run_append_owned_none (P:=P) (w:=w) base t o.type e i 1 O hi v l.length (l.map (Value.int k)) G;have af:=h v w (by simpa using G) ⟨rfl,rfl,rfl,Nat.le_refl _,λ_ _ _=>rfl⟩ (Or.inl rfl);simp only[List.length_nil] at H;unfold jl execOp;simp only[J,resolve,invoke,builtin,Sem.run_bind,Sem.run_pure,Result.andThen_ok,List.map_toArray,List.map_cons,List.map_nil,N,H,aj];exact af
end
section
set_option maxHeartbeats 8000000
inductive Tr where
 | done
 | op (k:Nat) (b:Bool) (t:Tr)
 | br (ks:List Nat) (f:Nat->Tr)
def Tr.has:Nat->Tr->Bool
 | 0,.done=>true
 | n+1,.op _ _ t=>t.has n
 | n+1,.br ks f=>ks.all λk=>(f k).has n
 | _,_=>false
section
variable {P:Program} {ops:Array Oper} {md:Region.Mode} {C:World->Prop}
def trB (md:Region.Mode) (ops:Array Oper) (T:Nat):Tr->Array Bool->Bool
 | .done,listed=>(Region.ready md ops listed).isEmpty
 | .op k true t,listed=>decide (k<ops.size)&&decide (Region.ready md ops listed=[k])&&trB md ops T t (listed.setIfInBounds k true)
 | .op k false t,listed=>decide (k<ops.size)&&(Region.ready md ops listed).contains k&&Region.free md ops listed k&&((ops[k]?).map (Xb ·.op)).getD false&&WD md ops T k&&trB md ops T t (listed.setIfInBounds k true)
 | .br ks f,listed=> !ks.isEmpty&&decide (Region.ready md ops listed=ks)&&ks.all λk=>decide (k<ops.size)&&trB md ops T (f k) (listed.setIfInBounds k true)
def zh (P:Program) (ops:Array Oper) (T:Nat) (C:World->Prop) (Q:Act->World->Prop):Tr->Act->World->Prop
 | .done,a,w=>Q a w
 | .op k true t,a,w=>if Region.wanted (ops[k]?.getD default) (yielded ops a.tmps) then jl P (Dem T C k) (ops[k]?.getD default) a w (zh P ops T C Q t) else C w/\zh P ops T C Q t (a.put (ops[k]?.getD default).dst undef) w
 | .op k false t,a,w=>C w/\if Region.wanted (ops[k]?.getD default) (yielded ops a.tmps) then (ops[k]?.getD default).quiet P a C (λa'=>zh P ops T C Q t a' w) else zh P ops T C Q t (a.put (ops[k]?.getD default).dst undef) w
 | .br ks f,a,w=> ∀k∈ks,if Region.wanted (ops[k]?.getD default) (yielded ops a.tmps) then jl P (Dem T C k) (ops[k]?.getD default) a w (zh P ops T C Q (f k)) else C w/\zh P ops T C Q (f k) (a.put (ops[k]?.getD default).dst undef) w
theorem yR {T:Nat} {Q:Act->World->Prop} (N:Region.noSelect ops=true): ∀(n:Nat) (t:Tr) (listed:Array Bool) (a:Act) (w:World),t.has n=true->
  trB md ops T t listed=true->zh P ops T C Q t a w->Qw P md ops T C Q n listed a w
 | 0,.done,_,_,_,_,hB,h=>⟨by simpa [trB] using hB,h⟩
 | 0,.op ..,_,_,_,hh,_,_=>by simp[Tr.has] at hh
 | 0,.br ..,_,_,_,hh,_,_=>by simp[Tr.has] at hh
 | _+1,.done,_,_,_,hh,_,_=>by simp[Tr.has] at hh
 | n+1,.op k true t,listed,a,w,hh,hB,h=>by
  simp only[trB,Bool.and_eq_true,decide_eq_true_eq] at hB;obtain⟨⟨O,J⟩,I⟩:=hB;have H:ops[k]? =some (ops[k]?.getD default):=by simp[O]
  generalize ops[k]?.getD default=o at H;refine⟨λd=>(by rw[J] at d;cases d),λi hi=> ?_⟩;rw[J] at hi;obtain rfl:i=k:=by simpa using hi
  unfold yq;unfold zh at h;simp only[H,Option.getD_some] at h ⊢;split
  ·rename_i G;rw[if_pos G] at h;exact uZ (λa' w' _ U=>yR N n t _ a' w' hh I U) h
  ·rename_i G;rw[if_neg G] at h;exact⟨yE h.1,yR N n t _ _ w hh I h.2⟩
 | n+1,.op k false t,listed,a,w,hh,hB,h=>by
  simp only[trB,Bool.and_eq_true,decide_eq_true_eq] at hB;obtain⟨⟨⟨⟨⟨O,J⟩,ad⟩,Y⟩,af⟩,I⟩:=hB;have H:ops[k]? =some (ops[k]?.getD default):=by simp[O]
  generalize ops[k]?.getD default=o at H;rw[H] at Y;simp only[Option.map_some,Option.getD_some] at Y;unfold zh at h;simp only[H,Option.getD_some] at h;obtain⟨ab,h⟩:=h;obtain⟨v,ag,ac⟩: ∃v,gy P ops C o v a/\zh P ops T C Q t (a.put o.dst v) w:=by
   by_cases G:Region.wanted o (yielded ops a.tmps)=true
   ·rw[if_pos G] at h;exact wK Y G h
   ·rw[if_neg G] at h;exact⟨undef,.inr ⟨by simpa using G,rfl⟩,h⟩
  exact Qc H (Region.noSelect_spec N) (Xz af) n listed a w ab (Region.free_spec H ad) (by simpa using J) ag
   (yR N n t _ _ w hh I ac)
 | n+1,.br ks f,listed,a,w,hh,hB,h=>by
  simp only[trB,Bool.and_eq_true,decide_eq_true_eq,List.all_eq_true] at hB;obtain⟨⟨ae,J⟩,I⟩:=hB;simp only[Tr.has,List.all_eq_true] at hh;refine⟨λd=>(by rw[J] at d;subst d;simp at ae),λi hi=> ?_⟩
  ·rw[J] at hi;have O:=(I i hi).1;have aa:=(I i hi).2;have d:=h i hi;have H:ops[i]? =some (ops[i]?.getD default):=by simp[O]
   generalize ops[i]?.getD default=o at H;unfold yq;simp only[H,Option.getD_some] at d ⊢;split
   ·rename_i G;rw[if_pos G] at d;exact uZ (λa' w' _ U=>yR N n (f i) _ a' w' (hh i hi) aa U) d
   ·rename_i G;rw[if_neg G] at d;exact⟨yE d.1,yR N n (f i) _ _ w (hh i hi) aa d.2⟩
end
section
variable {P:Program} {C:World->Prop} {l:List Oper} {T:Nat} {Q:Act->World->Prop} {k:Nat} {b:Bool} {o:Oper} {t:Tr} {a:Act} {w:World}
theorem ze (h:Q a w):zh P l.toArray T C Q .done a w:=h
theorem qE (G:l[k]? =some o) (H:Region.wanted o (yielded l.toArray a.tmps)=true) (d:C w) (h: ∀K:Act->Prop,(∀a,zh P l.toArray T C Q t a w->K a)->o.quiet P a C K):zh P l.toArray T C Q (.op k false t) a w:=by
 unfold zh;simp only[List.getElem?_toArray,G,Option.getD_some];rw[if_pos H];exact⟨d,h _ (λa h=>h)⟩
theorem jd (G:l[k]? =some o) (H:Region.wanted o (yielded l.toArray a.tmps)=false) (d:C w) (h:zh P l.toArray T C Q t (a.put o.dst undef) w):zh P l.toArray T C Q (.op k b t) a w:=by
 cases b
 all_goals
  unfold zh;simp only[List.getElem?_toArray,G,Option.getD_some];rw[if_neg (by rw[H];exact Bool.false_ne_true)];exact⟨d,h⟩
theorem qP (d:l[k]? =some o) (G:Region.wanted o (yielded l.toArray a.tmps)=true) (h: ∀K:Act->World->Prop,(∀a w,zh P l.toArray T C Q t a w->K a w)->jl P C o a w K):zh P l.toArray T C Q (.op k true t) a w:=by
 unfold zh;simp only[List.getElem?_toArray,d,Option.getD_some];rw[if_pos G];exact zk (λ_ h=>yE h) (h _ λa w h=>h)
theorem wR {i j:Nat} {t':Tr} (H:i≠j) (hi:zh P l.toArray T C Q (.op i true t) a w) (G:zh P l.toArray T C Q (.op j true t') a w):zh P l.toArray T C Q (.br [i,j] λk=>if k=i then t else t') a w:=by
 unfold zh at *;intro k d;simp at d;rcases d with rfl | rfl
 ·simpa using hi
 ·have: ¬k=i:=λe=>H e.symm
  simpa [this] using G
end
theorem Qb {P:Program} {id:Nat} {Q:Exit->Act->World->Prop} {a:Act} {w:World} {l:List Oper} {C:World->Prop} (T:Nat) (t:Tr) (N:P.follows .mixedOrders=true)
  (d:(Region.noSelect l.toArray&&trB .any l.toArray T t (Array.replicate l.length false)&&t.has l.length)=true)
  (h:zh P l.toArray T C (Q .normal) t a (w.drewN 1)):(Code.region id l.toArray true).wp P Q a w:=by
 simp only[Bool.and_eq_true] at d;obtain⟨⟨G,H⟩,I⟩:=d;refine wp_region_any N (wU (T:=T) (C:=C) (Q:=Q .normal) (λ_ _ h=>h) _ _ _ _ ?_);have J:l.toArray.size=l.length:=by simp
 rw[J];exact yR G _ t _ a _ I H h
theorem zC {P:Program} {id:Nat} {Q:Exit->Act->World->Prop} {a:Act} {w:World} {l:List Oper} (d:World) (T:Nat) (t:Tr) (H:P.follows .mixedOrders=true)
  (G:(Region.noSelect l.toArray&&trB .any l.toArray T t (Array.replicate l.length false)&&t.has l.length)=true)
  (h:zh P l.toArray T (λw'=> ∃x:qp d,w'=x.w') (Q .normal) t a (w.drewN 1)):(Code.region id l.toArray true).wp P Q a w:=
 Qb (C:=λw'=> ∃x:qp d,w'=x.w') T t H G h
theorem wE {P:Program} {id:Nat} {Q:Exit->Act->World->Prop} {a:Act} {w:World} {l:List Oper} (S:Nat->Prop) (d:World) (T:Nat) (t:Tr) (H:P.follows .mixedOrders=true)
  (G:(Region.noSelect l.toArray&&trB .any l.toArray T t (Array.replicate l.length false)&&t.has l.length)=true)
  (h:zh P l.toArray T (λw'=> ∃x:qu S d,w'=x.w') (Q .normal) t a (w.drewN 1)):(Code.region id l.toArray true).wp P Q a w:=
 Qb (C:=λw'=> ∃x:qu S d,w'=x.w') T t H G h
end
section
set_option maxHeartbeats 8000000
open Go.ChangeShapes Go.WideShapes Go.ChangeAt Go.RowKit
theorem kN {w:World} {a:Addr} {v:Value} (h:w.cell? a=some v):a.spot=none/\a.block<w.heap.size:=by
 unfold World.cell? at h;split at h
 ·rename_i c t f d;split at h
  ·cases h
  ·rename_i G;refine⟨by simpa using G, ?_⟩;rcases Nat.lt_or_ge a.block w.heap.size with h' | h'
   ·exact h'
   ·simp[Array.getElem?_eq_none h'] at d
 ·cases h
theorem Byt.of_wf {l:List Int} (h: ∀n∈l,(Lit.int .u8 n).wf=true):Byt l:=by
 intro i;rw[List.getD_eq_getElem?_getD];by_cases hi:i<l.length
 ·rw[List.getElem?_eq_getElem hi,Option.getD_some];exact bounds_u8 (h _ (List.getElem_mem hi))
 ·rw[List.getElem?_eq_none τ];simp
end
section
set_option maxHeartbeats 8000000
open Go.ChangeShapes Go.WideShapes Go.Deep
abbrev qJ (α:Type):=World->List Value->α->Prop
def jx (P:Program) (t:TypeId) {α:Type} (R:qJ α):Prop:=
 ∀(H:Type) (enc:TypeId×Value->H) (w:World) (base:Nat) (spare:Nat->Bool) (held:Bool) (fuel:Nat) (cs:List Value) (x:DataW H×List MemPlace),
  DataW.trod enc P w base spare held fuel t cs=some x-> ∃y,R w cs y
def wC {α:Type} (R:qJ α):Prop:= ∀(w w':World) (cs:List Value) (y:α),qa w w'->R w cs y->R w' cs y
def vd (k:IntKind):qJ Int:=λ_ cs n=>cs=[.int k n]/\(Lit.int k n).wf=true
def Ah:qJ Bool:=λ_ cs b=>cs=[.bool b]
def GH:qJ Unit:=λ_ cs _=>cs=[]
def zd {α β:Type} (n:Nat) (R:qJ α) (Q:qJ β):qJ (α×β):=λw cs y=>R w (cs.take n) y.1/\Q w (cs.drop n) y.2
def Mi {α:Type} (m n:Nat) (R:qJ α):qJ (List α):=λw cs L=>cs.length=m* n/\L.length=m/\ ∀i (hi:i<L.length),R w ((cs.drop (i* n)).take n) L[i]
def SlP {α:Type} (n:Nat) (R:qJ α) (w:World) (v:Value) (L:List α):Prop:=
 ∃oa cap,v= .slice oa L.length cap/\(L.length:Int)<=9223372036854775807/\
  (∀i (hi:i<L.length),∃b off cs,oa=some ⟨b,off,none⟩/\b<w.heap.size/\cs.length=n/\(∀j,j<n->w.cell? ⟨b,off+i* n+j,none⟩=cs[j]?)/\R w cs L[i])/\
  L.length<=cap/\cap<=maxLen/\(oa=none->cap=0)
def RSl {α:Type} (n:Nat) (R:qJ α):qJ (List α):=λw cs L=> ∃v,cs=[v]/\SlP n R w v L
theorem SlP.keep {α:Type} {n:Nat} {R:qJ α} {w w':World} {v:Value} {L:List α} (N:wC R) (h:SlP n R w v L) (m:qa w w'):SlP n R w' v L:=by
 obtain⟨ab,cap,G,H,I,J⟩:=h;refine⟨ab,cap,G,H,λi hi=> ?_,J⟩;obtain⟨b,ac,cs,e,d,Y,O,aa⟩:=I i hi;exact⟨b,ac,cs,e,Nat.lt_of_lt_of_le d m.size,Y,λj U=>by rw[m.cells b _ d];exact O j U,N _ _ _ _ m aa⟩
section
variable {P:Program} {t e:TypeId}
theorem jx.int {k:IntKind} (d:P.underlying t=some (.int k)):jx P t (vd k):=λ_ _ _ _ _ _ _ _ _ h=>by
 obtain⟨n,rfl,_,G⟩:=DataW.trod_int d h;exact⟨n,rfl,G⟩
theorem jx.bool (d:P.underlying t=some .bool):jx P t Ah:=λ_ _ _ _ _ _ _ _ _ h=>by
 obtain⟨n,rfl,_⟩:=DataW.trod_bool d h;exact⟨n,rfl⟩
theorem SlP.nil {α:Type} (n:Nat) (R:qJ α) (w:World):SlP n R w (δ none 0 0) []:=⟨none,0,rfl,η,λi hi=>by simp at hi,η,by unfold maxLen;omega,λ_=>rfl⟩
theorem uH {α:Type} {p:Nat->α->Prop}: ∀(n:Nat),(∀i,i<n-> ∃y,p i y)-> ∃L:List α,L.length=n/\ ∀i (hi:i<L.length),p i L[i]
 | 0,_=>⟨[],rfl,λi hi=>by simp at hi⟩
 | n+1,h=>by
  obtain⟨L,d,G⟩:=uH n (λi hi=>h i τ);obtain⟨y,H⟩:=h n τ;refine⟨L++[y],by simp[d],λi hi=> ?_⟩;simp at hi;by_cases e:i<L.length
  ·rw[List.getElem_append_left e];exact G i e
  ·obtain rfl:i=L.length:=by omega
   simp[d,H]
theorem jx.sl {α:Type} {n:Nat} {R:qJ α} (au:P.underlying t=some (.slice e)) (ao:P.cellsOf e=n) (aG:1<=n) (h:jx P e R):jx P t (RSl n R):=λad ae w base az aj aC cs x aw=>by
 rcases open_slice au aw with ⟨rfl,_⟩ | ⟨a,ac,cap,m,ay,D,aA,rfl,aD,am,Y,an,_,hi⟩
 ·exact⟨[],_,rfl,SlP.nil n R w⟩
 ·have aF:ac<=m:=by rw[an];split<;>omega
  rw[ao] at hi
  obtain⟨L,H,aa⟩:=uH (p:=λi y=> ∃cs,w.cells? base (a.add (i* n)) n=some cs/\R w cs y) ac (λi U=>by
   obtain⟨cs',I,av⟩:=hi i τ;obtain⟨y,ax⟩:=h ad ae w base az aj ay cs' _ av
   exact⟨y,cs',I,ax⟩)
  refine⟨L,_,rfl,some a,cap,by rw[H],by rw[H];unfold maxLen at Y;omega,λi U=> ?_,by rw[H];exact am,Y,λh=>by cases h⟩;obtain⟨cs',I,ap⟩:=aa i U;obtain⟨_,ai,O⟩:=World.cells?_some I;have G:=O 0 τ;rw[List.getElem?_eq_getElem τ] at G;have aq:=kN G;obtain⟨b,d,sp⟩:=a;have N: ∀k,(⟨b,d,sp⟩:Addr).add k=⟨b,d+k,if k=0 then sp else none⟩:=by
   intro k;unfold Addr.add;split
   ·rename_i al;subst al;rfl
   ·rfl
  have ag:b<w.heap.size:=by
   have:=aq.2;rw[N] at this;unfold Addr.add at this;exact this
  have ar:sp=none:=by
   obtain⟨aB,ah,_⟩:=aa 0 τ;obtain⟨_,aE,af⟩:=World.cells?_some ah;have J:=af 0 τ;rw[List.getElem?_eq_getElem τ] at J;have ab:=(kN J).1;simp[Addr.add] at ab;exact ab
  subst ar;refine⟨b,d,cs',rfl,ag,ai,λj ak=> ?_,ap⟩;rw[<-O j ak,N];have:(⟨b,d+i* n,if i* n=0 then none else none⟩:Addr)=⟨b,d+i* n,none⟩:=by split<;>rfl
  rw[this];unfold Addr.add;split
  ·rename_i G;subst G;rfl
  ·rfl
def jE (P:Program) (fs:List Field) (off:Nat) {α:Type} (R:qJ α):Prop:=
 ∀(H:Type) (enc:TypeId×Value->H) (w:World) (base:Nat) (spare:Nat->Bool) (held:Bool) (n total:Nat) (cs:List Value),cs.length=total->total=off+(fs.map λf=>P.cellsOf f.type).sum->
  (∀f∈fs,∃x,DataW.trod enc P w base spare held n f.type ((cs.drop f.offset).take (P.cellsOf f.type))=some x)-> ∃y,R w (cs.drop off) y
theorem jE.nil {G:Nat}:jE P [] G GH:=λ_ _ _ _ _ _ _ _ cs H d _=>⟨(),by
 simp at d
 exact List.drop_eq_nil_of_le τ⟩
theorem jE.cons {α β:Type} {f:Field} {I:List Field} {d n:Nat} {R:qJ α} {Q:qJ β} (ac:f.offset=d) (N:P.cellsOf f.type=n) (h:jx P f.type R) (k:jE P I (d+n) Q):jE P (f::I) d (zd n R Q):=λG H w base Y J m ag cs ab ad O=>by
 obtain⟨x,ae⟩:=O f η;obtain⟨y,U⟩:=h G H w base Y J m _ x ae;obtain⟨z,af⟩:=k G H w base Y J m ag cs ab (by rw[ad];simp[N];omega) (λg aa=>O g (by simp[aa]));rw[ac,N] at U;exact⟨(y,z),U,by rw[List.drop_drop];exact af⟩
theorem jx.struct {α:Type} {d:Array Field} {R:qJ α} (aa:P.underlying t=some (.struct d)) (I:P.cellsOf t=(d.toList.map λf=>P.cellsOf f.type).sum) (h:jE P d.toList 0 R):jx P t R:=λG H w base ad J ae cs x ab=>by
 obtain⟨xs,n,_,_,Y,af,N⟩:=DataW.trod_struct aa ab
 obtain⟨y,ac⟩:=h G H w base ad J n _ cs rfl (by rw[Y,I];omega) (λf O=>by
  obtain⟨i,hi,rfl⟩:=List.mem_iff_getElem.1 O;have U:i<d.size:=by simpa using hi
  have:=N i d[i] (by simp[U]);rw[List.getElem?_eq_getElem τ] at this
  exact⟨_,by simpa using this⟩)
 exact⟨y,by simpa using ac⟩
theorem jx.arr {α:Type} {m n:Nat} {R:qJ α} (aa:P.underlying t=some (.array m e)) (U:P.cellsOf e=n) (J:P.cellsOf t=m* n) (h:jx P e R):jx P t (Mi m n R):=λG H w base ad N ae cs x ab=>by
 obtain⟨xs,ac,_,_,O,af,d⟩:=DataW.trod_array aa ab;rw[U] at d
 obtain⟨L,I,Y⟩:=uH (p:=λi y=>R w ((cs.drop (i* n)).take n) y) m (λi hi=>by
  have:=d i hi;rw[List.getElem?_eq_getElem τ] at this
  exact h G H w base ad N ac _ _ this)
 exact⟨L,by rw[O,J],I,Y⟩
end
theorem SlP.ints {k:IntKind} {w:World} {v:Value} {L:List Int} (h:SlP 1 (vd k) w v L):SlI k w v L/\ ∀n∈L,(Lit.int k n).wf=true:=by
 obtain⟨ac,cap,N,O,d,U⟩:=h;refine⟨⟨ac,cap,N,O,λi hi=> ?_,U⟩,λn aa=> ?_⟩
 ·obtain⟨b,J,cs,e,G,Y,H,I,_⟩:=d i hi;refine⟨b,J,e,G, ?_⟩;have:=H 0 τ;rw[I] at this
  simpa [hi] using this
 ·obtain⟨i,hi,rfl⟩:=List.mem_iff_getElem.1 aa;obtain⟨b,J,cs,e,G,Y,H,I,ab⟩:=d i hi;exact ab
end
section
set_option maxHeartbeats 8000000
def jp {α:Type} (R:qJ α) (D:Nat->Prop) (w:World) (cs:List Value) (y:α):Prop:= ∀w',qg D w w'->R w' cs y
section
variable {α:Type} {R:qJ α} {D D':Nat->Prop} {w w':World} {cs:List Value} {y:α}
theorem jp.read (h:jp R D w cs y):R w cs y:=h w (qg.refl D w)
theorem jp.step (h:jp R D w cs y) (a:qg D w w'):jp R D w' cs y:=λ_ b=>h _ (a.trans b)
theorem jp.on (h:jp R D w cs y) (a:qa w w'):jp R D w' cs y:=h.step (qg.of_more a)
theorem jp.other (h:jp R D w cs y) (k: ∀b,D' b->D b∨w.heap.size<=b):jp R D' w cs y:=λw' a=>
 h w' ⟨a.os,a.tape,a.output,a.size,λb d G=>a.block b d (λx=>by
  rcases k b x with e | e
  ·exact G e
  ·omega)⟩
theorem jp.old (d:wC R) (h:R w cs y) (k: ∀b,D b->w.heap.size<=b):jp R D w cs y:=λw' a=>
 d w w' cs y ⟨a.os,a.tape,a.output,a.size,λb G=>a.block b G (λx=>by have:=k b x;omega)⟩ h
end
theorem SlI.off {k:IntKind} {D:Nat->Prop} {w w':World} {v:Value} {l:List Int} (h:SlI k w v l) (J: ∀b,v.ownBlock=some b-> ¬D b) (a:qg D w w'):SlI k w' v l:=by
 obtain⟨O,cap,rfl,G,H,I⟩:=h;refine⟨O,cap,rfl,G,λi hi=> ?_,I⟩;obtain⟨b,off,rfl,d,N⟩:=H i hi;exact⟨b,off,rfl,Nat.lt_of_lt_of_le d a.size,by rw[a.cells b _ d (J b rfl)];exact N⟩
theorem SlP.of_ints {k:IntKind} {w:World} {v:Value} {l:List Int} (h:SlI k w v l) (O: ∀n∈l,(Lit.int k n).wf=true):SlP 1 (vd k) w v l:=by
 obtain⟨U,cap,G,H,I,J⟩:=h;refine⟨U,cap,G,H,λi hi=> ?_,J⟩;obtain⟨b,Y,e,N,d⟩:=I i hi;refine⟨b,Y,[.int k l[i]],e,N,rfl,λj aa=> ?_,rfl,O _ (List.getElem_mem hi)⟩;obtain rfl:j=0:=by omega
 simp at d ⊢;rw[d];simp[hi]
structure qV {α:Type} (n:Nat) (R:qJ α) (D:Nat->Prop) (w:World) (base e:Nat) (v:Value) (L:List α):Prop where
 row: ∃xs,w.ownsRow base e n v L.length xs/\ ∀i (hi:i<L.length),jp R (λk=>D k∨v.ownBlock=some k) w ((xs.drop (i* n)).take n) L[i]
 apart: ∀b,v.ownBlock=some b-> ¬D b
section
variable {α:Type} {n:Nat} {R:qJ α} {D:Nat->Prop} {w w':World} {base e:Nat} {v:Value} {L:List α}
theorem qV.nil (n:Nat) (R:qJ α) (D:Nat->Prop) (w:World) (base e:Nat):qV n R D w base e (δ none 0 0) []:=
 ⟨⟨[],World.ownsRow_nil w base e n,λi hi=>by simp at hi⟩,λb h=>by cases h⟩
theorem qV.step (h:qV n R D w base e v L) (a:qg D w w'):qV n R D w' base e v L:=by
 obtain⟨⟨xs,⟨G,H⟩,I⟩,d⟩:=h;refine⟨⟨xs,⟨G, ?_⟩,λi hi=>(I i hi).step (a.mono λk J=>Or.inl J)⟩,d⟩;rcases H with h | ⟨g,cap,cur,e1,hb,hg,rest⟩
 ·exact Or.inl h
 ·exact Or.inr ⟨g,cap,cur,e1,hb,a.blk hg (d g (by rw[e1];rfl)),rest⟩
theorem qV.on (h:qV n R D w base e v L) (a:qa w w'):qV n R D w' base e v L:=h.step (qg.of_more a)
theorem qV.shape (h:qV n R D w base e v L): ∃oa m cap,v= δ oa m cap/\m=L.length/\L.length<=cap:=by
 obtain⟨⟨xs,d,_⟩,_⟩:=h;rcases d.2 with ⟨rfl,e⟩ | ⟨b,cap,cur,rfl,_,_,G,_⟩
 ·exact⟨none,0,0,rfl,τ,τ⟩
 ·exact⟨_,_,cap,rfl,rfl,G⟩
theorem qV.lt (h:qV n R D w base e v L) {b:Nat} (d:v.ownBlock=some b):b<w.heap.size:=by
 obtain⟨⟨xs,H,_⟩,_⟩:=h;rcases H.2 with ⟨rfl,_⟩ | ⟨G,cap,cur,rfl,_,I,_⟩
 ·cases d
 ·obtain rfl:G=b:=by injection d
  exact lt_of_block I
theorem qV.ge (h:qV n R D w base e v L) {b:Nat} (d:v.ownBlock=some b):base<=b:=by
 obtain⟨⟨xs,H,_⟩,_⟩:=h;rcases H.2 with ⟨rfl,_⟩ | ⟨G,cap,cur,rfl,I,_⟩
 ·cases d
 ·obtain rfl:G=b:=by injection d
  exact I
theorem qV.sl (h:qV n R D w base e v L) (ad:0<n):SlP n R w v L:=by
 obtain⟨⟨xs,⟨I,J⟩,N⟩,_⟩:=h;rcases J with ⟨rfl,H⟩ | ⟨g,cap,cur,rfl,ab,G,Y,d,ac,aa⟩
 ·obtain rfl:L=[]:=List.eq_nil_of_length_eq_zero H;exact SlP.nil n R w
 ·refine⟨_,cap,rfl,by unfold maxLen at d;omega,λi hi=>⟨g,0,_,rfl,lt_of_block G, ?_,λj U=> ?_,(N i hi).read⟩,Y,d,λh=>by cases h⟩
  ·have O:i* n+n<=L.length* n:=by
    have:(i+1)* n<=L.length* n:=Nat.mul_le_mul_right n hi;rw[Nat.add_mul,Nat.one_mul] at this;exact this
   rw[List.length_take,List.length_drop,I];omega
  ·have O:i* n+n<=L.length* n:=by
    have:(i+1)* n<=L.length* n:=Nat.mul_le_mul_right n hi;rw[Nat.add_mul,Nat.one_mul] at this;exact this
   rw[Nat.zero_add,cell_of_row w g _ cur e (0,0) G,List.getElem?_take,if_pos U,List.getElem?_drop,<-aa,List.getElem?_take,if_pos τ];simp
end
theorem uK {P:Program} (w:World) (base:Nat) (t aa e:TypeId) (i:TypeInfo) (z:Value) (n bytes:Nat) (aw:P.underlying t=some (.slice e)) (hi:P.info? e=some i) (ay:i.zero=some z)
  (av:i.size=n) (ah:i.bytes=bytes) (az:z.cells.size=n) (ao:0<n)
  {α:Type} {R:qJ α} {D:Nat->Prop} (v:Value) (L:List α) (ar:qV n R D w base e v L)
  (B:Nat) (cs:List Value) (y:α) (am:cs.length=n) (ap: ∀j u,cs[j]? =some u->w.cell? ⟨B,j,none⟩=some u) (ad: ∀u∈cs,u.oneCell'=true)
  (ax:jp R (λk=>D k∨v.ownBlock=some k) w cs y) (ae: ∀b,D b->b<w.heap.size)
  (aA:1<=bytes) (ai:(L.length+1)* bytes<=140737488355328) (ag:base<=w.heap.size):
  ∃v' w',(Builtin.append_ #[t,t] aa #[v,δ (some ⟨B,0,none⟩) 1 1]).run P w= .ok v' w'/\qV n R D w' base e v' (L++[y])/\w.grownBy w' v.ownBlock/\(v'.ownBlock=v.ownBlock∨v'.ownBlock=some w.heap.size):=by
 obtain⟨⟨xs,N,ak⟩,af⟩:=ar;have an:L.length+1<=maxLen:=by
  have:=Nat.le_mul_of_pos_right (L.length+1) (show 0<bytes by omega);unfold maxLen;omega
 obtain⟨v',w',au,aq,G,_,d⟩:=run_append_own_at (P:=P) w base t aa e i z n bytes aw hi ay av ah az ao v L.length xs N ⟨B,0,none⟩ 1 1 cs (by rw[am,Nat.one_mul]) (by
  intro j u al;have ab:(⟨B,0,none⟩:Addr).add j=⟨B,j,none⟩:=by
   unfold Addr.add;split
   ·rename_i ac;subst ac;rfl
   ·simp
  rw[ab];exact ap j u al) ad an ai ag
 have aj: ∀k (J:k<(L++[y]).length),jp R (λk=>D k∨v.ownBlock=some k) w (((xs++cs).drop (k* n)).take n) (L++[y])[k]:=by
  intro k J;simp at J;by_cases e:k<L.length
  ·have aB:k* n+n<=L.length* n:=by
    have:(k+1)* n<=L.length* n:=Nat.mul_le_mul_right n e;rw[Nat.add_mul,Nat.one_mul] at this;exact this
   have aC:=N.1;have O:((xs++cs).drop (k* n)).take n=(xs.drop (k* n)).take n:=by
    rw[List.drop_append_of_le_length τ,List.take_append_of_le_length (by rw[List.length_drop];omega)]
   rw[O,List.getElem_append_left e];exact ak k e
  ·obtain rfl:k=L.length:=by omega
   have O:((xs++cs).drop (L.length* n)).take n=cs:=by
    rw[List.drop_append_of_le_length (by rw[N.1];exact Nat.le_refl _),List.drop_eq_nil_of_le (by rw[N.1];exact Nat.le_refl _),List.nil_append];exact List.take_of_length_le τ
   rw[O]
   simpa using ax
 refine⟨v',w',au,⟨⟨xs++cs,by simpa using aq,λk J w'' a'=> ?_⟩, ?_⟩,G,d⟩
 ·refine aj k J w'' ⟨a'.os.trans G.os,a'.tape.trans G.tape,a'.output.trans G.output,Nat.le_trans G.size a'.size,λb H U=> ?_⟩;rw[a'.block b (Nat.lt_of_lt_of_le H G.size) ?_]
  ·exact G.block b H (λe=>U (Or.inr e.symm))
  ·rintro(I | I)
   ·exact U (Or.inl I)
   ·rcases d with d | d
    ·exact U (Or.inr (by rw[<-d];exact I))
    ·rw[d] at I;have:w.heap.size=b:=by injection I
     omega
 ·intro b H Y;rcases d with d | d
  ·exact af b (by rw[<-d];exact H) Y
  ·rw[d] at H;have:w.heap.size=b:=by injection H
   have:=ae b Y;omega
theorem jj {P:Program} (w:World) {ops:Array Oper} {rest:List Oper} {o:Oper} {a:Act} {Q:Exit->Act->World->Prop} (ab:o.guard=none) (s x:Operand) (t:TypeId)
  (af:o.op= .call {callee:= .builtin .append,args:= #[s,x],argTypes:= #[t,t]})
  (base:Nat) (e:TypeId) (i:TypeInfo) (z:Value) (n bytes:Nat) (ak:P.underlying t=some (.slice e)) (hi:P.info? e=some i) (an:i.zero=some z)
  (aj:i.size=n) (U:i.bytes=bytes) (ao:z.cells.size=n) (ad:0<n)
  {α:Type} {R:qJ α} {D:Nat->Prop} (v:Value) (L:List α) (ai:a.eval s=v) (ag:qV n R D w base e v L)
  (B:Nat) (cs:List Value) (y:α) (al:a.eval x= δ (some ⟨B,0,none⟩) 1 1) (ac:cs.length=n) (ae: ∀j u,cs[j]? =some u->w.cell? ⟨B,j,none⟩=some u) (d: ∀u∈cs,u.oneCell'=true)
  (am:jp R (λk=>D k∨v.ownBlock=some k) w cs y) (J: ∀b,D b->b<w.heap.size)
  (Y:1<=bytes) (aa:(L.length+1)* bytes<=140737488355328) (O:base<=w.heap.size)
  (h: ∀v' w',qV n R D w' base e v' (L++[y])->w.grownBy w' v.ownBlock->(v'.ownBlock=v.ownBlock∨v'.ownBlock=some w.heap.size)->wpList P ops Q rest (a.put o.dst v') w'):wpList P ops Q (o::rest) a w:=by
 refine wpList_plain ab λK N=> ?_
 obtain⟨v',w',ah,G,H,I⟩:=uK (P:=P) w base t o.type e i z n bytes ak hi an aj U ao ad v L ag B cs y ac ae d am J Y aa O;unfold Oper.wp execOp;simp only[af,resolve,invoke,builtin,Sem.run_bind,Sem.run_pure,Result.andThen_ok,List.map_toArray,List.map_cons,List.map_nil,ai,al,ah];exact N _ _ (h v' w' G H I)
theorem zK {P:Program} {w:World} {o:Oper} {a:Act} {C:World->Prop} {K:Act->World->Prop} (s x:Operand) (t:TypeId)
  (ad:o.op= .call {callee:= .builtin .append,args:= #[s,x],argTypes:= #[t,t]})
  (base:Nat) (e:TypeId) (i:TypeInfo) (z:Value) (n bytes:Nat) (ai:P.underlying t=some (.slice e)) (hi:P.info? e=some i) (al:i.zero=some z)
  (ah:i.size=n) (O:i.bytes=bytes) (am:z.cells.size=n) (ab:0<n)
  {α:Type} {R:qJ α} {D:Nat->Prop} (v:Value) (L:List α) (ag:a.eval s=v) (ae:qV n R D w base e v L)
  (B:Nat) (cs:List Value) (y:α) (aj:a.eval x= δ (some ⟨B,0,none⟩) 1 1) (aa:cs.length=n) (ac: ∀j u,cs[j]? =some u->w.cell? ⟨B,j,none⟩=some u) (d: ∀u∈cs,u.oneCell'=true)
  (ak:jp R (λk=>D k∨v.ownBlock=some k) w cs y) (J: ∀b,D b->b<w.heap.size)
  (U:1<=bytes) (Y:(L.length+1)* bytes<=140737488355328) (N:base<=w.heap.size)
  (h: ∀v' w',qV n R D w' base e v' (L++[y])->w.grownBy w' v.ownBlock->(v'.ownBlock=v.ownBlock∨v'.ownBlock=some w.heap.size)->C w'/\K (a.put o.dst v') w'):jl P C o a w K:=by
 obtain⟨v',w',af,G,H,I⟩:=uK (P:=P) w base t o.type e i z n bytes ai hi al ah O am ab v L ae B cs y aa ac d ak J U Y N;unfold jl execOp;simp only[ad,resolve,invoke,builtin,Sem.run_bind,Sem.run_pure,Result.andThen_ok,List.map_toArray,List.map_cons,List.map_nil,ag,aj,af];exact h v' w' G H I
end
end Go.Proofs.YtlmllmonabafjaaGreatDoor
