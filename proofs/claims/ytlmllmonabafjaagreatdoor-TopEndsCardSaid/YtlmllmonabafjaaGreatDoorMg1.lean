/- Contracts of the functions that the law reaches, and plain laws; no conditions but those written at each. -/
import Derived.Test.YtlmllmonabafjaaGreatDoorMg0
import Derived.Handy
import Derived.Test.YtlmllmonabafjaaGreatDoorRows
import Derived.Maps.AppendAt
import Derived.Lib.LazyBuf
namespace Go.Proofs.YtlmllmonabafjaaGreatDoor
open Go.Value renaming bool->μ,slice->δ,pointer->π,agg->θ
open Go.IntKind renaming i64->ι,u8->υ,u16->φ,u32->ω,i32->χ,u64->ψ
set_option linter.unusedSimpArgs false
set_option linter.unusedVariables false
open Go.RowKit
set_option maxRecDepth 100000
theorem τ {P : Prop} (h : P := by omega) : P := h
theorem ξ {P : Prop} (h : P := by kernel_rfl) : P := h
theorem ζ {P : Prop} (h : P := by decide) : P := h
theorem η {P : Prop} (h : P := by simp) : P := h
theorem κ {p : Prop} (h : p) : RowKit.Hid p := h
theorem ν {α : Sort _} (a : α) : ∃ x, a = x := ⟨_, rfl⟩
theorem ρ {w w' : World} (h : qa w w' := by repeat (first | exact qa.refl _ | assumption | refine qa.dr ?_ _ | refine qa.al ?_ _ | refine qa.st ?_ (by simp) _)) : qa w w' := h
theorem σ {S : Nat → Prop} {w w' : World} (h : qg S w w' := by repeat (first | exact qg.refl _ _ | assumption | refine qg.drewN ?_ _ | refine qg.set ?_ (by first | rfl | exact Or.inl rfl | exact Or.inr rfl) _)) : qg S w w' := h
theorem _root_.Go.RowKit.Hid.o {p : Prop} (h : RowKit.Hid p) : p := h
theorem β0 {w : World} {b t : Nat} {v0 : Value} {c : List Value} (h : w.heap[b]? = some (.cells (v0 :: c).toArray t (0, 0))) : w.cell? ⟨b, 0, none⟩ = some v0 := qb h 0 (by simp)
theorem β1 {w : World} {b t : Nat} {v0 v1 : Value} {c : List Value} (h : w.heap[b]? = some (.cells (v0 :: v1 :: c).toArray t (0, 0))) : w.cell? ⟨b, 1, none⟩ = some v1 := qb h 1 (by simp)
theorem β2 {w : World} {b t : Nat} {v0 v1 v2 : Value} {c : List Value} (h : w.heap[b]? = some (.cells (v0 :: v1 :: v2 :: c).toArray t (0, 0))) : w.cell? ⟨b, 2, none⟩ = some v2 := qb h 2 (by simp)
theorem β3 {w : World} {b t : Nat} {v0 v1 v2 v3 : Value} {c : List Value} (h : w.heap[b]? = some (.cells (v0 :: v1 :: v2 :: v3 :: c).toArray t (0, 0))) : w.cell? ⟨b, 3, none⟩ = some v3 := qb h 3 (by simp)
theorem β4 {w : World} {b t : Nat} {v0 v1 v2 v3 v4 : Value} {c : List Value} (h : w.heap[b]? = some (.cells (v0 :: v1 :: v2 :: v3 :: v4 :: c).toArray t (0, 0))) : w.cell? ⟨b, 4, none⟩ = some v4 := qb h 4 (by simp)
theorem β5 {w : World} {b t : Nat} {v0 v1 v2 v3 v4 v5 : Value} {c : List Value} (h : w.heap[b]? = some (.cells (v0 :: v1 :: v2 :: v3 :: v4 :: v5 :: c).toArray t (0, 0))) : w.cell? ⟨b, 5, none⟩ = some v5 := qb h 5 (by simp)
theorem β6 {w : World} {b t : Nat} {v0 v1 v2 v3 v4 v5 v6 : Value} {c : List Value} (h : w.heap[b]? = some (.cells (v0 :: v1 :: v2 :: v3 :: v4 :: v5 :: v6 :: c).toArray t (0, 0))) : w.cell? ⟨b, 6, none⟩ = some v6 := qb h 6 (by simp)
theorem β7 {w : World} {b t : Nat} {v0 v1 v2 v3 v4 v5 v6 v7 : Value} {c : List Value} (h : w.heap[b]? = some (.cells (v0 :: v1 :: v2 :: v3 :: v4 :: v5 :: v6 :: v7 :: c).toArray t (0, 0))) : w.cell? ⟨b, 7, none⟩ = some v7 := qb h 7 (by simp)
theorem β8 {w : World} {b t : Nat} {v0 v1 v2 v3 v4 v5 v6 v7 v8 : Value} {c : List Value} (h : w.heap[b]? = some (.cells (v0 :: v1 :: v2 :: v3 :: v4 :: v5 :: v6 :: v7 :: v8 :: c).toArray t (0, 0))) : w.cell? ⟨b, 8, none⟩ = some v8 := qb h 8 (by simp)
theorem β9 {w : World} {b t : Nat} {v0 v1 v2 v3 v4 v5 v6 v7 v8 v9 : Value} {c : List Value} (h : w.heap[b]? = some (.cells (v0 :: v1 :: v2 :: v3 :: v4 :: v5 :: v6 :: v7 :: v8 :: v9 :: c).toArray t (0, 0))) : w.cell? ⟨b, 9, none⟩ = some v9 := qb h 9 (by simp)
theorem β10 {w : World} {b t : Nat} {v0 v1 v2 v3 v4 v5 v6 v7 v8 v9 v10 : Value} {c : List Value} (h : w.heap[b]? = some (.cells (v0 :: v1 :: v2 :: v3 :: v4 :: v5 :: v6 :: v7 :: v8 :: v9 :: v10 :: c).toArray t (0, 0))) : w.cell? ⟨b, 10, none⟩ = some v10 := qb h 10 (by simp)
theorem β11 {w : World} {b t : Nat} {v0 v1 v2 v3 v4 v5 v6 v7 v8 v9 v10 v11 : Value} {c : List Value} (h : w.heap[b]? = some (.cells (v0 :: v1 :: v2 :: v3 :: v4 :: v5 :: v6 :: v7 :: v8 :: v9 :: v10 :: v11 :: c).toArray t (0, 0))) : w.cell? ⟨b, 11, none⟩ = some v11 := qb h 11 (by simp)
theorem β12 {w : World} {b t : Nat} {v0 v1 v2 v3 v4 v5 v6 v7 v8 v9 v10 v11 v12 : Value} {c : List Value} (h : w.heap[b]? = some (.cells (v0 :: v1 :: v2 :: v3 :: v4 :: v5 :: v6 :: v7 :: v8 :: v9 :: v10 :: v11 :: v12 :: c).toArray t (0, 0))) : w.cell? ⟨b, 12, none⟩ = some v12 := qb h 12 (by simp)
theorem β13 {w : World} {b t : Nat} {v0 v1 v2 v3 v4 v5 v6 v7 v8 v9 v10 v11 v12 v13 : Value} {c : List Value} (h : w.heap[b]? = some (.cells (v0 :: v1 :: v2 :: v3 :: v4 :: v5 :: v6 :: v7 :: v8 :: v9 :: v10 :: v11 :: v12 :: v13 :: c).toArray t (0, 0))) : w.cell? ⟨b, 13, none⟩ = some v13 := qb h 13 (by simp)
theorem β14 {w : World} {b t : Nat} {v0 v1 v2 v3 v4 v5 v6 v7 v8 v9 v10 v11 v12 v13 v14 : Value} {c : List Value} (h : w.heap[b]? = some (.cells (v0 :: v1 :: v2 :: v3 :: v4 :: v5 :: v6 :: v7 :: v8 :: v9 :: v10 :: v11 :: v12 :: v13 :: v14 :: c).toArray t (0, 0))) : w.cell? ⟨b, 14, none⟩ = some v14 := qb h 14 (by simp)
theorem β15 {w : World} {b t : Nat} {v0 v1 v2 v3 v4 v5 v6 v7 v8 v9 v10 v11 v12 v13 v14 v15 : Value} {c : List Value} (h : w.heap[b]? = some (.cells (v0 :: v1 :: v2 :: v3 :: v4 :: v5 :: v6 :: v7 :: v8 :: v9 :: v10 :: v11 :: v12 :: v13 :: v14 :: v15 :: c).toArray t (0, 0))) : w.cell? ⟨b, 15, none⟩ = some v15 := qb h 15 (by simp)
theorem β16 {w : World} {b t : Nat} {v0 v1 v2 v3 v4 v5 v6 v7 v8 v9 v10 v11 v12 v13 v14 v15 v16 : Value} {c : List Value} (h : w.heap[b]? = some (.cells (v0 :: v1 :: v2 :: v3 :: v4 :: v5 :: v6 :: v7 :: v8 :: v9 :: v10 :: v11 :: v12 :: v13 :: v14 :: v15 :: v16 :: c).toArray t (0, 0))) : w.cell? ⟨b, 16, none⟩ = some v16 := qb h 16 (by simp)
theorem β17 {w : World} {b t : Nat} {v0 v1 v2 v3 v4 v5 v6 v7 v8 v9 v10 v11 v12 v13 v14 v15 v16 v17 : Value} {c : List Value} (h : w.heap[b]? = some (.cells (v0 :: v1 :: v2 :: v3 :: v4 :: v5 :: v6 :: v7 :: v8 :: v9 :: v10 :: v11 :: v12 :: v13 :: v14 :: v15 :: v16 :: v17 :: c).toArray t (0, 0))) : w.cell? ⟨b, 17, none⟩ = some v17 := qb h 17 (by simp)
theorem β18 {w : World} {b t : Nat} {v0 v1 v2 v3 v4 v5 v6 v7 v8 v9 v10 v11 v12 v13 v14 v15 v16 v17 v18 : Value} {c : List Value} (h : w.heap[b]? = some (.cells (v0 :: v1 :: v2 :: v3 :: v4 :: v5 :: v6 :: v7 :: v8 :: v9 :: v10 :: v11 :: v12 :: v13 :: v14 :: v15 :: v16 :: v17 :: v18 :: c).toArray t (0, 0))) : w.cell? ⟨b, 18, none⟩ = some v18 := qb h 18 (by simp)
theorem β19 {w : World} {b t : Nat} {v0 v1 v2 v3 v4 v5 v6 v7 v8 v9 v10 v11 v12 v13 v14 v15 v16 v17 v18 v19 : Value} {c : List Value} (h : w.heap[b]? = some (.cells (v0 :: v1 :: v2 :: v3 :: v4 :: v5 :: v6 :: v7 :: v8 :: v9 :: v10 :: v11 :: v12 :: v13 :: v14 :: v15 :: v16 :: v17 :: v18 :: v19 :: c).toArray t (0, 0))) : w.cell? ⟨b, 19, none⟩ = some v19 := qb h 19 (by simp)
theorem β20 {w : World} {b t : Nat} {v0 v1 v2 v3 v4 v5 v6 v7 v8 v9 v10 v11 v12 v13 v14 v15 v16 v17 v18 v19 v20 : Value} {c : List Value} (h : w.heap[b]? = some (.cells (v0 :: v1 :: v2 :: v3 :: v4 :: v5 :: v6 :: v7 :: v8 :: v9 :: v10 :: v11 :: v12 :: v13 :: v14 :: v15 :: v16 :: v17 :: v18 :: v19 :: v20 :: c).toArray t (0, 0))) : w.cell? ⟨b, 20, none⟩ = some v20 := qb h 20 (by simp)
instance:CoeFun IntKind (λ_=>Int->Value):=⟨.int⟩
instance:Coe Bool Value:=⟨.bool⟩
instance:Coe Unit Value:=⟨λ_=>.slice none 0 0⟩
inductive Mm | o
def γ (b:Nat):Mm:=.o
instance (b:Nat):CoeDep Mm (γ b) Value:=⟨.pointer (some ⟨b,0,none⟩)⟩
def Γa:Mm:=.o
instance:CoeDep Mm Γa (List Value):=⟨[ι 0,ι 0,μ false,μ false,υ 0,φ 0,ω 0,ω 0,δ none 0 0,μ false,φ 0,δ none 0 0,δ none 0 0]⟩
instance:CoeDep Mm Γa (Array Value):=⟨#[ι 0,ι 0,μ false,μ false,υ 0,φ 0,ω 0,ω 0,δ none 0 0,μ false,φ 0,δ none 0 0,δ none 0 0]⟩
instance:CoeDep Mm Γa Value:=⟨θ #[ι 0,ι 0,μ false,μ false,υ 0,φ 0,ω 0,ω 0,δ none 0 0,μ false,φ 0,δ none 0 0,δ none 0 0]⟩
def Γs:Mm:=.o
instance:CoeDep Mm Γs (List Value):=⟨[ι 0,δ none 0 0]⟩
instance:CoeDep Mm Γs (Array Value):=⟨#[ι 0,δ none 0 0]⟩
instance:CoeDep Mm Γs Value:=⟨θ #[ι 0,δ none 0 0]⟩
def Γb:Mm:=.o
instance:CoeDep Mm Γb (List Value):=⟨[ι 0,ι 0,μ false,μ false,υ 0,φ 0,ω 0,ω 0,δ none 0 0,μ false,φ 0,δ none 0 0,δ none 0 0,μ false]⟩
instance:CoeDep Mm Γb (Array Value):=⟨#[ι 0,ι 0,μ false,μ false,υ 0,φ 0,ω 0,ω 0,δ none 0 0,μ false,φ 0,δ none 0 0,δ none 0 0,μ false]⟩
instance:CoeDep Mm Γb Value:=⟨θ #[ι 0,ι 0,μ false,μ false,υ 0,φ 0,ω 0,ω 0,δ none 0 0,μ false,φ 0,δ none 0 0,δ none 0 0,μ false]⟩
def Γc:Mm:=.o
instance:CoeDep Mm Γc (List Value):=⟨[μ false,υ 0,φ 0,ω 0,ω 0,δ none 0 0,μ false,φ 0,δ none 0 0,δ none 0 0]⟩
instance:CoeDep Mm Γc (Array Value):=⟨#[μ false,υ 0,φ 0,ω 0,ω 0,δ none 0 0,μ false,φ 0,δ none 0 0,δ none 0 0]⟩
instance:CoeDep Mm Γc Value:=⟨θ #[μ false,υ 0,φ 0,ω 0,ω 0,δ none 0 0,μ false,φ 0,δ none 0 0,δ none 0 0]⟩
def Γd:Mm:=.o
instance:CoeDep Mm Γd (List Value):=⟨[μ false,ω 0,ω 0,ω 0,ω 0,ω 0,ω 0,δ none 0 0]⟩
instance:CoeDep Mm Γd (Array Value):=⟨#[μ false,ω 0,ω 0,ω 0,ω 0,ω 0,ω 0,δ none 0 0]⟩
instance:CoeDep Mm Γd Value:=⟨θ #[μ false,ω 0,ω 0,ω 0,ω 0,ω 0,ω 0,δ none 0 0]⟩
def Γe:Mm:=.o
instance:CoeDep Mm Γe (List Value):=⟨[ω 0,υ 0,χ 0,ω 0,ω 0,ω 0,ω 0]⟩
instance:CoeDep Mm Γe (Array Value):=⟨#[ω 0,υ 0,χ 0,ω 0,ω 0,ω 0,ω 0]⟩
instance:CoeDep Mm Γe Value:=⟨θ #[ω 0,υ 0,χ 0,ω 0,ω 0,ω 0,ω 0]⟩
def Γf:Mm:=.o
instance:CoeDep Mm Γf (List Value):=⟨[ι 0,μ false,ω 0,ω 0,ω 0,ω 0,ω 0,ω 0,δ none 0 0,ι 0,ω 0,ω 0,δ none 0 0,δ none 0 0,υ 0,υ 0,δ none 0 0]⟩
instance:CoeDep Mm Γf (Array Value):=⟨#[ι 0,μ false,ω 0,ω 0,ω 0,ω 0,ω 0,ω 0,δ none 0 0,ι 0,ω 0,ω 0,δ none 0 0,δ none 0 0,υ 0,υ 0,δ none 0 0]⟩
instance:CoeDep Mm Γf Value:=⟨θ #[ι 0,μ false,ω 0,ω 0,ω 0,ω 0,ω 0,ω 0,δ none 0 0,ι 0,ω 0,ω 0,δ none 0 0,δ none 0 0,υ 0,υ 0,δ none 0 0]⟩
def Γg:Mm:=.o
instance:CoeDep Mm Γg (List Value):=⟨[ι 0,ω 0,ω 0,δ none 0 0,δ none 0 0]⟩
instance:CoeDep Mm Γg (Array Value):=⟨#[ι 0,ω 0,ω 0,δ none 0 0,δ none 0 0]⟩
instance:CoeDep Mm Γg Value:=⟨θ #[ι 0,ω 0,ω 0,δ none 0 0,δ none 0 0]⟩
def Qo:Nat->Nat->List Nat->List (Nat×Bool)
 | _,0,_=>[]
 | i,k+1,L=>(i,L.elem i)::Qo (i+1) k L
theorem Qn {P:Program} {id:Nat} {Q:Exit->Act->World->Prop} {a:Act} {w:World} {l:List Oper} (w0:World) (T k:Nat) (L:List Nat) {n:List (Nat×Bool)} (h:zU P l T (λw'=> ∃x:qt w0,w'=x.w') (Q .normal) n a (w.drewN 1)) (e:Qo 0 k L=n:=by simp[Qo];exact rfl) (hm:P.follows .mixedOrders=true:=by kernel_rfl) (hB:(Region.noSelect l.toArray&&JG .any l.toArray T n (Array.replicate l.length false)&&decide (n.length=l.length)&&n.all λx=>decide (x.1<l.length))=true:=by kernel_rfl):(Code.region id l.toArray true).wp P Q a w:=zC w0 T n hm hB h
theorem QN {P:Program} {id:Nat} {Q:Exit->Act->World->Prop} {a:Act} {w:World} {l:List Oper} (S:Nat->Prop) (w0:World) (T k:Nat) (L:List Nat) {n:List (Nat×Bool)} (h:zU P l T (λw'=> ∃x:qz S w0,w'=x.w') (Q .normal) n a (w.drewN 1)) (e:Qo 0 k L=n:=by simp[Qo];exact rfl) (hm:P.follows .mixedOrders=true:=by kernel_rfl) (hB:(Region.noSelect l.toArray&&JG .any l.toArray T n (Array.replicate l.length false)&&decide (n.length=l.length)&&n.all λx=>decide (x.1<l.length))=true:=by kernel_rfl):(Code.region id l.toArray true).wp P Q a w:=zp S w0 T n hm hB h
theorem Ql {P Q:Prop} (k:Q) (h:(Unit->Q)->P:=by intro k;refine jR rfl rfl ?_;intro K hK;unfold jn;go_simp;revert K hK;exact k ()):P:=h (λ_=>k)
theorem Qe {P Q:Prop} (k:Q) (h:(Unit->Q)->P:=by intro k;refine zY rfl rfl (by decide) ?_;intro K hK;unfold jn;go_simp;revert K hK;exact k ()):P:=h (λ_=>k)
theorem Qq1 {P Q:Prop} (k:Q) (h:(Unit->Q)->P:=by intro k;(iterate 1 (refine qE rfl rfl (qk ρ) ?_;intro K hK;go_big_quiet_op;go_big_quiet_on));exact k ()):P:=h (λ_=>k)
theorem Qq2 {P Q:Prop} (k:Q) (h:(Unit->Q)->P:=by intro k;(iterate 2 (refine qE rfl rfl (qk ρ) ?_;intro K hK;go_big_quiet_op;go_big_quiet_on));exact k ()):P:=h (λ_=>k)
theorem Qq3 {P Q:Prop} (k:Q) (h:(Unit->Q)->P:=by intro k;(iterate 3 (refine qE rfl rfl (qk ρ) ?_;intro K hK;go_big_quiet_op;go_big_quiet_on));exact k ()):P:=h (λ_=>k)
theorem Qq5 {P Q:Prop} (k:Q) (h:(Unit->Q)->P:=by intro k;(iterate 5 (refine qE rfl rfl (qk ρ) ?_;intro K hK;go_big_quiet_op;go_big_quiet_on));exact k ()):P:=h (λ_=>k)
theorem Qq6 {P Q:Prop} (k:Q) (h:(Unit->Q)->P:=by intro k;(iterate 6 (refine qE rfl rfl (qk ρ) ?_;intro K hK;go_big_quiet_op;go_big_quiet_on));exact k ()):P:=h (λ_=>k)
theorem Qq7 {P Q:Prop} (k:Q) (h:(Unit->Q)->P:=by intro k;(iterate 7 (refine qE rfl rfl (qk ρ) ?_;intro K hK;go_big_quiet_op;go_big_quiet_on));exact k ()):P:=h (λ_=>k)
theorem Qq8 {P Q:Prop} (k:Q) (h:(Unit->Q)->P:=by intro k;(iterate 8 (refine qE rfl rfl (qk ρ) ?_;intro K hK;go_big_quiet_op;go_big_quiet_on));exact k ()):P:=h (λ_=>k)
theorem Qq9 {P Q:Prop} (k:Q) (h:(Unit->Q)->P:=by intro k;(iterate 9 (refine qE rfl rfl (qk ρ) ?_;intro K hK;go_big_quiet_op;go_big_quiet_on));exact k ()):P:=h (λ_=>k)
theorem NC {P Q:Prop} (k:Q) (h:(Unit->Q)->P:=by intro k;(iterate 10 (refine qE rfl rfl (qk ρ) ?_;intro K hK;go_big_quiet_op;go_big_quiet_on));exact k ()):P:=h (λ_=>k)
theorem Qs {P Q:Prop} (k:Q) (h:(Unit->Q)->P:=by intro k;(iterate 12 (refine qE rfl rfl (qk ρ) ?_;intro K hK;go_big_quiet_op;go_big_quiet_on));exact k ()):P:=h (λ_=>k)
theorem RY {P Q:Prop} (k:Q) (h:(Unit->Q)->P:=by intro k;(iterate 13 (refine qE rfl rfl (qk ρ) ?_;intro K hK;go_big_quiet_op;go_big_quiet_on));exact k ()):P:=h (λ_=>k)
theorem Ny {P Q:Prop} (k:Q) (h:(Unit->Q)->P:=by intro k;(iterate 19 (refine qE rfl rfl (qk ρ) ?_;intro K hK;go_big_quiet_op;go_big_quiet_on));exact k ()):P:=h (λ_=>k)
theorem RX {P Q:Prop} (k:Q) (h:(Unit->Q)->P:=by intro k;(iterate 20 (refine qE rfl rfl (qk ρ) ?_;intro K hK;go_big_quiet_op;go_big_quiet_on));exact k ()):P:=h (λ_=>k)
theorem NA {P Q:Prop} (k:Q) (h:(Unit->Q)->P:=by intro k;(iterate 21 (refine qE rfl rfl (qk ρ) ?_;intro K hK;go_big_quiet_op;go_big_quiet_on));exact k ()):P:=h (λ_=>k)
theorem Qs1 {P Q:Prop} (k:Q) (h:(Unit->Q)->P:=by intro k;(iterate 1 (refine qE rfl rfl (qi σ) ?_;intro K hK;go_big_quiet_op;go_big_quiet_on));exact k ()):P:=h (λ_=>k)
theorem Qs2 {P Q:Prop} (k:Q) (h:(Unit->Q)->P:=by intro k;(iterate 2 (refine qE rfl rfl (qi σ) ?_;intro K hK;go_big_quiet_op;go_big_quiet_on));exact k ()):P:=h (λ_=>k)
theorem Qs3 {P Q:Prop} (k:Q) (h:(Unit->Q)->P:=by intro k;(iterate 3 (refine qE rfl rfl (qi σ) ?_;intro K hK;go_big_quiet_op;go_big_quiet_on));exact k ()):P:=h (λ_=>k)
theorem Qs4 {P Q:Prop} (k:Q) (h:(Unit->Q)->P:=by intro k;(iterate 4 (refine qE rfl rfl (qi σ) ?_;intro K hK;go_big_quiet_op;go_big_quiet_on));exact k ()):P:=h (λ_=>k)
theorem Qs5 {P Q:Prop} (k:Q) (h:(Unit->Q)->P:=by intro k;(iterate 5 (refine qE rfl rfl (qi σ) ?_;intro K hK;go_big_quiet_op;go_big_quiet_on));exact k ()):P:=h (λ_=>k)
theorem Qs6 {P Q:Prop} (k:Q) (h:(Unit->Q)->P:=by intro k;(iterate 6 (refine qE rfl rfl (qi σ) ?_;intro K hK;go_big_quiet_op;go_big_quiet_on));exact k ()):P:=h (λ_=>k)
theorem Qs7 {P Q:Prop} (k:Q) (h:(Unit->Q)->P:=by intro k;(iterate 7 (refine qE rfl rfl (qi σ) ?_;intro K hK;go_big_quiet_op;go_big_quiet_on));exact k ()):P:=h (λ_=>k)
theorem Qs8 {P Q:Prop} (k:Q) (h:(Unit->Q)->P:=by intro k;(iterate 8 (refine qE rfl rfl (qi σ) ?_;intro K hK;go_big_quiet_op;go_big_quiet_on));exact k ()):P:=h (λ_=>k)
theorem Qs9 {P Q:Prop} (k:Q) (h:(Unit->Q)->P:=by intro k;(iterate 9 (refine qE rfl rfl (qi σ) ?_;intro K hK;go_big_quiet_op;go_big_quiet_on));exact k ()):P:=h (λ_=>k)
theorem Nx {P Q:Prop} (k:Q) (h:(Unit->Q)->P:=by intro k;(iterate 10 (refine qE rfl rfl (qi σ) ?_;intro K hK;go_big_quiet_op;go_big_quiet_on));exact k ()):P:=h (λ_=>k)
theorem Nz {P Q:Prop} (k:Q) (h:(Unit->Q)->P:=by intro k;(iterate 12 (refine qE rfl rfl (qi σ) ?_;intro K hK;go_big_quiet_op;go_big_quiet_on));exact k ()):P:=h (λ_=>k)
theorem NE {P Q:Prop} (k:Q) (h:(Unit->Q)->P:=by intro k;(iterate 13 (refine qE rfl rfl (qi σ) ?_;intro K hK;go_big_quiet_op;go_big_quiet_on));exact k ()):P:=h (λ_=>k)
theorem Qq {P Q:Prop} (k:Q) (h:(Unit->Q)->P:=by intro k;(iterate 14 (refine qE rfl rfl (qi σ) ?_;intro K hK;go_big_quiet_op;go_big_quiet_on));exact k ()):P:=h (λ_=>k)
theorem RW {P Q:Prop} (k:Q) (h:(Unit->Q)->P:=by intro k;(iterate 16 (refine qE rfl rfl (qi σ) ?_;intro K hK;go_big_quiet_op;go_big_quiet_on));exact k ()):P:=h (λ_=>k)
theorem RV {P Q:Prop} (k:Q) (h:(Unit->Q)->P:=by intro k;(iterate 17 (refine qE rfl rfl (qi σ) ?_;intro K hK;go_big_quiet_op;go_big_quiet_on));exact k ()):P:=h (λ_=>k)
theorem ND {P Q:Prop} (k:Q) (h:(Unit->Q)->P:=by intro k;(iterate 19 (refine qE rfl rfl (qi σ) ?_;intro K hK;go_big_quiet_op;go_big_quiet_on));exact k ()):P:=h (λ_=>k)
def Ν2:Mm:=.o
instance:CoeDep Mm Ν2 Nat:=⟨2⟩
def Ν13:Mm:=.o
instance:CoeDep Mm Ν13 Nat:=⟨13⟩
def Ν14:Mm:=.o
instance:CoeDep Mm Ν14 Nat:=⟨14⟩
def Ν53:Mm:=.o
instance:CoeDep Mm Ν53 Nat:=⟨53⟩
def Ν56:Mm:=.o
instance:CoeDep Mm Ν56 Nat:=⟨56⟩
def Ν253:Mm:=.o
instance:CoeDep Mm Ν253 Nat:=⟨253⟩
def Ν255:Mm:=.o
instance:CoeDep Mm Ν255 Nat:=⟨255⟩
def Ν325:Mm:=.o
instance:CoeDep Mm Ν325 Nat:=⟨325⟩
def Ν327:Mm:=.o
instance:CoeDep Mm Ν327 Nat:=⟨327⟩
def Ν328:Mm:=.o
instance:CoeDep Mm Ν328 Nat:=⟨328⟩
def Ν330:Mm:=.o
instance:CoeDep Mm Ν330 Nat:=⟨330⟩
def Ν332:Mm:=.o
instance:CoeDep Mm Ν332 Nat:=⟨332⟩
section
open _root_.Go.Proofs.Tryz
set_option maxHeartbeats 8000000
theorem ZP (a s:Int) (h:May a s) (w:World):
  Calls prog 285 #[ι a,ι s] w λe w'=>e= .returned (μ true)/\w'=w:=by
 obtain⟨d,G,H,I⟩:=h
 go_enter func285,ntmps285
 go_wp2;go_ret;exact⟨rfl,rfl⟩
theorem BT (a s:Int) (G:I64 a) (H:I64 s) (h: ¬May a s) (w:World):
  Calls prog 285 #[ι a,ι s] w λe w'=>e= .returned (μ false)/\w'=w:=by
 obtain⟨I,J⟩:=G;obtain⟨N,O⟩:=H;have d:=κ h;clear h
 go_enter func285,ntmps285
 go_wp2
 all_goals
  go_ret;have h:=d.o;unfold May at h;exact⟨qZ (by first | rfl | (simp;omega)),rfl⟩
theorem Vw (s:Int) (d:0<=s) (G:s<=64) (w:World):
  Calls prog 286 #[ι s] w λe w'=>e= .returned (ψ (two s-1))/\w'=w:=by
 go_enter func286,ntmps286
 go_wp2;go_ret;exact⟨xV (EH s d G),rfl⟩
theorem QK (n:Int) (a s:Int) (G:U64 n) (h:May a s) (w:World):
  Calls prog 254 #[ψ n,ι a,ι s] w λe w'=>e= .returned (ψ (fld n a s))/\ ∃k,w'=w.drewN k:=by
 have I:=ZP a s h;have d:=Fj n a s G h;obtain⟨J,N,O,U⟩:=h;obtain⟨Y,n2⟩:=G;have H:=κ d;clear d
 go_enter func254,ntmps254
 go_wp2_with (go_at_call 285;refine(I _).mono ?_;rintro e w' ⟨rfl,rfl⟩)
 go_quiet ((go_at_call 286;exact Calls.quiet_of_same (Vw s τ τ _)))
 go_wp2;go_ret;exact⟨xV H.o,_,rfl⟩
theorem FU (n v:Int) (a s:Int) (G:U64 n) (J:U64 v) (h:May a s) (w:World):
  Calls prog 278 #[ψ n,ι a,ι s,ψ v] w λe w'=>e= .returned (ψ (lay n a s v))/\ ∃k,w'=w.drewN k:=by
 have I:=ZP a s h;have d:=BY n a s v G J h;obtain⟨N,O,U,Y⟩:=h;obtain⟨aa,n2⟩:=G;have H:=κ d;clear d
 go_enter func278,ntmps278
 go_wp2_with (first | (go_at_call 285;refine(I _).mono ?_;rintro e w' ⟨rfl,rfl⟩) | (go_at_call 286;refine(Vw _ τ τ _).mono ?_;rintro e w' ⟨rfl,rfl⟩))
 go_ret;exact⟨xV H.o,0,rfl⟩
theorem Lr (n v:Int) (a s:Int) (G:I64 a) (I:I64 s) (h: ¬May a s) (w:World):
  Calls prog 278 #[ψ n,ι a,ι s,ψ v] w λe w'=>e= .returned (ψ (lay n a s v))/\ ∃k,w'=w.drewN k:=by
 have H:=BT a s G I h;have d:=κ (show n=lay n a s v by unfold lay;rw[if_neg h]);clear h
 go_enter func278,ntmps278
 go_wp2_with (go_at_call 285;refine(H _).mono ?_;rintro e w' ⟨rfl,rfl⟩)
 go_ret;exact⟨xV d.o,0,rfl⟩
theorem FV (n v:Int) (a s:Int) (G:U64 n) (I:U64 v) (d:I64 a) (H:I64 s) (w:World):
  Calls prog 278 #[ψ n,ι a,ι s,ψ v] w λe w'=>e= .returned (ψ (lay n a s v))/\ ∃k,w'=w.drewN k:=by
 by_cases h:May a s
 ·exact FU n v a s G I h w
 ·exact Lr n v a s d H h w
theorem U9 (n s:Int) (G:U64 n) (H:I64 s) (w:World):
  Calls prog 327 #[ψ n,ι s] w λe w'=>e= .returned (ι (sgd n s))/\w'=w:=by
 obtain⟨I,n2⟩:=G;obtain⟨s1,s2⟩:=H;by_cases h1:1<=s
 ·by_cases h2:s<=64
  ·have d:=κ (AV n s h1 h2)
   go_enter func327,ntmps327
   go_wp2;go_ret;exact⟨xV d.o,rfl⟩
  ·have d:=κ (show 0=sgd n s by unfold sgd;rw[if_pos τ])
   go_enter func327,ntmps327
   go_wp2;go_ret;exact⟨xV d.o,rfl⟩
 ·have d:=κ (show 0=sgd n s by unfold sgd;rw[if_pos τ])
  go_enter func327,ntmps327
  go_wp2;go_ret;exact⟨xV d.o,rfl⟩
end
section
open _root_.Go.Proofs.Tryz
set_option maxHeartbeats 8000000
theorem KD (l:List Int) (v:Value) (w:World) (ag:8<l.length) (ad:SlI .u8 w v l) (O:Byt l):
  Calls prog 167 #[v] w λe w'=>e= .returned (ψ (num l))/\w'=w:=by
 obtain⟨ao,cap,rfl,am,G,ah,_,_⟩:=ad;obtain⟨b,ae,rfl,_,_⟩:=G 0 τ;have ab:=κ G;have aa:=κ O;have I:=κ (OM l);clear G O
 go_enter func167,ntmps167
 go_wp2;obtain⟨d,Y⟩: ∃d,d=l.length-8:=⟨_,rfl⟩;have J:=κ (show (l.drop d).length=8 by simp;omega);have ak:d+8<=l.length:=by omega
 have aj:l.length<=d+8:=by omega
 rw[<-Y] at I ⊢;clear Y
 go_loop [4,14] (λn i=> ∃j:Nat,j<=8/\i= ι j/\n= ψ (num ((l.drop d).take j))) (λ_ i=>8-(intOf i).toNat)
 case atStart=>exact⟨0,τ,rfl,by simp[num]⟩
 case round=>
  obtain⟨j,al,rfl,rfl⟩:=hrel;by_cases hlt:j<8
  ·obtain⟨af,ap,N,_,U⟩:=ab.o (d+j) τ;simp only[Option.some.injEq,Addr.mk.injEq,and_true] at N;obtain⟨rfl,rfl⟩:=N;have an:d+j<l.length:=by omega
   have ai:w.cell? ⟨b,ae+d+j,none⟩=some (υ (l.getD (d+j) 0)):=by rw[Nat.add_assoc];exact U
   clear U
   have H:=ZJ (l.drop d) j (by rw[J.o];exact hlt) (λi=>by
    have:=aa.o (d+i)
    rwa [List.getD_eq_getElem?_getD,List.getElem?_drop,<-List.getD_eq_getElem?_getD])
   rw[List.getElem_drop] at H;have ac:=κ H;clear H;go_wp2
   go_round
   case rel=>exact⟨j+1,τ,by go_num,by rw[<-ac.o]⟩
   case measure=>simp[intOf];omega
  ·go_wp2;go_ret;exact⟨xV (by rw[List.take_of_length_le (by rw[J.o];omega)];exact I.o),rfl⟩
theorem Va (l:List Int) (v:Value) (w:World) (O:l.length<=8) (N:SlI .u8 w v l) (d:Byt l):
  Calls prog 167 #[v] w λe w'=>e= .returned (ψ (num l))/\w'=w:=by
 obtain⟨ac,cap,rfl,ab,G,U,_,_⟩:=N;have I:=κ G;have H:=κ d;clear G d
 go_enter func167,ntmps167
 go_wp2
 go_loop [4,14] (λn i=> ∃j:Nat,j<=l.length/\i= ι j/\n= ψ (num (l.take j))) (λ_ i=>l.length-(intOf i).toNat)
 case atStart=>exact⟨0,τ,rfl,by simp[num]⟩
 case round=>
  obtain⟨j,aa,rfl,rfl⟩:=hrel;by_cases hlt:j<l.length
  ·obtain⟨b,ad,rfl,_,Y⟩:=I.o j hlt;have J:=κ (ZJ l j hlt H.o);go_wp2
   go_round
   case rel=>exact⟨j+1,τ,by go_num,by rw[<-J.o]⟩
   case measure=>simp[intOf];omega
  ·go_wp2;go_ret;exact⟨xV (by rw[List.take_of_length_le τ]),rfl⟩
theorem gg (l:List Int) (v:Value) (w:World) (G:SlI .u8 w v l) (d:Byt l):
  Calls prog 167 #[v] w λe w'=>e= .returned (ψ (num l))/\w'=w:=by
 by_cases h:8<l.length
 ·exact KD l v w h G d
 ·exact Va l v w τ G d
theorem Fi:(prog.info? 5).map (λi=>(i.zero,i.size,i.bytes))=some (some (υ 0),1,1):=by kernel_rfl
theorem Dz (n:Int) (s:Nat) (O:U64 n) (ad:s<=8) (w:World):
  Calls prog 208 #[ψ n,ι s] w λe w'=> ∃v,e= .returned v/\SlI .u8 w' v (bys n s)/\qa w w':=by
 obtain⟨af,n2⟩:=O;obtain⟨ac,hi,Y,aa,ab⟩:=info_parts Fi
 go_enter func208,ntmps208
 go_wp2_with (at_make;refine wpList_make_full _ rfl _ _ 35 rfl w.heap.size 5 ac (υ 0) 1 underlying35 hi Y aa _ _ _ _ s rfl rfl τ τ ?c1 ?c2 ?c3 ?_)
 case c1=>rw[ab];omega
 case c2=>unfold maxLen;omega
 case c3=>omega
 intro w1 d H;have G:Below w.heap.size w w1:=(Below.refl _ _).grown H τ η;have I:w1.ownsRow w.heap.size 5 1 (δ (some ⟨w.heap.size,0,none⟩) s s) s ((vY n s 0).map (Value.int .u8)):=by
  rw[U0];simpa [toList_madeCells_one] using d
 clear d H;go_wp2
 go_loopw [16] (λi wr=> ∃k:Nat,k<=s/\i= ι k/\wr.ownsRow w.heap.size 5 1 (δ (some ⟨w.heap.size,0,none⟩) s s) s ((vY n s k).map (Value.int .u8))/\Below w.heap.size w wr) (λi _=>s-(intOf i).toNat)
 case atStart=>exact⟨0,τ,rfl,I,G⟩
 case round=>
  obtain⟨k,N,rfl,d,G⟩:=hrel;clear I;by_cases hlt:k<s
  ·have J:=d.cellAt (s-1-k) τ;have ae:=d.frozenAt (s-1-k);have U:=d.stored (s-1-k) (υ (by8 n k));rw[List.getElem?_map,List.getElem?_eq_getElem (by rw[Y4];omega),Option.map_some] at J;go_wp2;go_roundw
   case rel=>exact⟨k+1,τ,by go_num,by rw[<-Dh n s k hlt,List.map_set];exact U.1,G.setCell (Nat.le_refl _) _⟩
   case measure=>simp[intOf];omega
  ·obtain rfl:k=s:=by omega
   clear hlt N;go_wp2;refine bodyPost_ret (v:= δ (some ⟨w.heap.size,0,none⟩) k k) (by simp[results,results208,go_sem]) rfl ?_;rw[U3] at d;have:=zP n k;exact⟨_,rfl,SlI.of_owns (by rw[this];exact d) (by rw[this];omega),G⟩
end
section
set_option maxHeartbeats 8000000
theorem Ej (n s:Int) (d:1<=s) (G:s<=64):sgd n s%two s=n%two s:=by
 unfold sgd;rw[if_neg τ];split
 ·exact Int.emod_emod_of_dvd _ (Int.dvd_refl _)
 ·rw[Int.sub_emod_right];exact Int.emod_emod_of_dvd _ (Int.dvd_refl _)
theorem KR (n s:Int) (G:1<=s) (H:s<=64): -two (s-1)<=sgd n s/\sgd n s<two (s-1):=by
 have b:=gy (s-1);have q:=JX (k:=s-1) τ;rw[show s-1+1=s from by omega] at q;have c:=Int.emod_nonneg n (b:=two s) τ;have d:=Int.emod_lt_of_pos n (b:=two s) τ;unfold sgd;rw[if_neg τ];split<;>omega
theorem EW (n a s v:Int) (d:U64 n):U64 (lay n a s v):=by
 unfold lay;split
 ·have:=EX n.toNat a.toNat s.toNat v.toNat;unfold U64;omega
 ·exact d
theorem Py (n a s v:Int) (h:May a s):(lay n a s v).toNat=DC n.toNat a.toNat s.toNat v.toNat:=by
 unfold lay;rw[if_pos h];simp
theorem BN {d M:Nat} (H:d<18446744073709551616) (G:M<18446744073709551616) (h: ∀i,i<64->d.testBit i=M.testBit i):d=M:=by
 apply Nat.eq_of_testBit_eq;intro i;by_cases hi:i<64
 ·exact h i hi
 ·rw[Nat.testBit_lt_two_pow (Nat.lt_of_lt_of_le (m:=2 ^ 64) H (Nat.pow_le_pow_right τ τ)),Nat.testBit_lt_two_pow (Nat.lt_of_lt_of_le (m:=2 ^ 64) G (Nat.pow_le_pow_right τ τ))]
theorem VA (n:Int) (k:Nat):yJ (bys n k)=n%2 ^ (8* k):=by
 induction k with
 | zero=>simp[bys,yJ,Int.emod_one]
 | succ k ih=>
  rw[Cq,show by8 n k::bys n k=[by8 n k]++bys n k from rfl,Q7,ih,zP];unfold by8;rw[show (8* (k+1))=8* k+8 from by omega,Int.pow_add,show ((256:Int) ^ k)=2 ^ (8* k) from by rw[Int.pow_mul];rfl];have e:yJ [n/2 ^ (8* k)%256]=n/2 ^ (8* k)%256:=by simp[yJ]
  rw[e];have I:(0:Int)<2 ^ (8* k):=Int.pow_pos ζ;have d:=Int.emod_add_mul_ediv n (2 ^ (8* k));have G:=Int.emod_add_mul_ediv (n/2 ^ (8* k)) 256;have J:=Int.emod_nonneg n (b:=2 ^ (8* k)) τ;have N:=Int.emod_lt_of_pos n I;have O:=Int.emod_nonneg (n/2 ^ (8* k)) (b:=256) τ;have U:=Int.emod_lt_of_pos (n/2 ^ (8* k)) (b:=256) τ;generalize (2:Int) ^ (8* k)=P at *;generalize n%P=R at *;generalize ab:n/P=Q at *;generalize Q%256=r at *;generalize Q/256=q at *;have aa:r* P<=255* P:=Int.mul_le_mul_of_nonneg_right τ τ;have Y:0<=r* P:=Int.mul_nonneg τ τ;have H:n=(r* P+R)+(P* 256)* q:=by
   rw[<-d,<-G,Int.mul_add,Int.mul_comm P r,<-Int.mul_assoc];omega
  rw[show (2:Int) ^ 8=256 from by decide];rw[H,Int.add_mul_emod_self_left];exact(Int.emod_eq_of_lt τ τ).symm
theorem Byt.snoc {l:List Int} {x:Int} (h:Byt (l++[x])):Byt l/\0<=x/\x<=255:=by
 constructor
 ·intro i;by_cases hi:i<l.length
  ·have:=h i
   rwa [List.getD_eq_getElem?_getD,List.getElem?_append_left hi,<-List.getD_eq_getElem?_getD] at this
  ·rw[List.getD_eq_getElem?_getD,List.getElem?_eq_none τ];simp
 ·have:=h l.length;rw[List.getD_eq_getElem?_getD,List.getElem?_append_right (Nat.le_refl _)] at this
  simpa using this
theorem OO (l:List Int): ∀m:List Int,l.length=m.length->Byt l->Byt m->yJ l=yJ m->l=m:=by
 refine gM (P:=λl=> ∀m:List Int,l.length=m.length->Byt l->Byt m->yJ l=yJ m->l=m) ?_ ?_ l
 ·intro m h _ _ _;exact(List.eq_nil_of_length_eq_zero (by simpa using h.symm)).symm
 ·intro l x U m d N H J;rcases List.eq_nil_or_concat m with rfl | ⟨m',y,rfl⟩
  ·simp at d
  ·rw[List.concat_eq_append] at *;rw[yR,yR] at J;obtain⟨O,Y⟩:=N.snoc;obtain⟨I,aa⟩:=H.snoc;have G:x=y:=by omega
   have:=U m' (by simpa using d) O I τ;rw[this,G]
theorem JF (n:Int) (k:Nat):Byt (bys n k):=by
 intro i;rw[List.getD_eq_getElem?_getD];by_cases hi:i<(bys n k).length
 ·rw[List.getElem?_eq_getElem hi,Option.getD_some];simp only[bys,List.getElem_map];exact IX _ _
 ·rw[List.getElem?_eq_none τ];simp
theorem Yy (l:List Int) (h:Byt l):0<=yJ l/\yJ l<2 ^ (8* l.length):=by
 revert h
 refine gM (P:=λl=>Byt l->0<=yJ l/\yJ l<2 ^ (8* l.length)) ?_ ?_ l
 ·intro _;simp[yJ]
 ·intro l x G h;obtain⟨d,H⟩:=h.snoc;have:=G d;rw[yR,List.length_append,List.length_singleton,show 8* (l.length+1)=8* l.length+8 from by omega,Int.pow_add,show (2:Int) ^ 8=256 from by decide];omega
theorem uD (l:List Int) (h:Byt l) (H:l.length<=8):num l=yJ l:=by
 have d:=Yy l h;have G:(2:Int) ^ (8* l.length)<=2 ^ 64:=by
  have:=Nat.pow_le_pow_right (n:=2) τ (show 8* l.length<=64 by omega)
  exact_mod_cast this
 rw[Xh];exact Int.emod_eq_of_lt d.1 (Int.lt_of_lt_of_le d.2 G)
theorem Fv (l:List Int) (h:Byt l) (G:l.length<=8):bys (num l) l.length=l:=by
 apply OO _ _ (zP _ _) (JF _ _) h;have d:=Yy l h;rw[VA,uD l h G];exact Int.emod_eq_of_lt d.1 d.2
end
section
open _root_.Go.Proofs.Tryz
set_option maxHeartbeats 8000000
def qy (n s:Int):List Int:=if 0<=s/\s<=8 then bys n s.toNat else []
theorem gQ (n s:Int) (h:0<=s/\s<=8):qy n s=bys n s.toNat:=by unfold qy;rw[if_pos h]
theorem DA (n s:Int) (G:U64 n) (H:I64 s) (w:World):
  Calls prog 208 #[ψ n,ι s] w λe w'=> ∃v,e= .returned v/\SlI .u8 w' v (qy n s)/\qa w w':=by
 obtain⟨s1,s2⟩:=H;by_cases h:0<=s/\s<=8
 ·obtain⟨S,rfl⟩:=Int.eq_ofNat_of_zero_le h.1;rw[gQ _ _ h,Int.toNat_natCast];exact Dz n S G τ w
 ·have d:=κ (show qy n s=[] by unfold qy;rw[if_neg h]);by_cases h1:0<=s
  ·have I:8<s:=by omega
   clear h
   go_enter func208,ntmps208
   go_wp2;go_ret;exact⟨_,rfl,by rw[d.o];exact SlI.nil _ _,qa.refl _⟩
  ·clear h
   go_enter func208,ntmps208
   go_wp2;go_ret;exact⟨_,rfl,by rw[d.o];exact SlI.nil _ _,qa.refl _⟩
end
section
set_option maxHeartbeats 8000000
theorem qU {P:Program} (w:World) {ops:Array Oper} {rest:List Oper} {o:Oper} {a:Act} {Q:Exit->Act->World->Prop} (J:o.guard=none) (s x:Operand) (t:TypeId)
  (O:o.op= .call {callee:= .builtin .append,args:= #[s,x],argTypes:= #[t,t]})
  (base:Nat) (e:TypeId) (i:TypeInfo) (z:Value) (bytes:Nat) (Y:P.underlying t=some (.slice e)) (hi:P.info? e=some i) (ax:i.zero=some z)
  (av:i.size=1) (al:i.bytes=bytes) (ay:z.cells.size=1)
  (v:Value) (k:IntKind) (l:List Int) (U:a.eval s=v) (H:w.ownsRow base e 1 v l.length (l.map (Value.int k)))
  (ae:Value) (d:List Int) (aa:a.eval x=ae) (ao:SlI k w ae d)
  (am:(l.length+d.length)* bytes<=140737488355328) (aA:1<=bytes) (ak:base<=w.heap.size)
  (h: ∀v' w',w'.ownsRow base e 1 v' (l++d).length ((l++d).map (Value.int k))->w.grownBy w' v.ownBlock->(v'.ownBlock=v.ownBlock∨v'.ownBlock=some w.heap.size)->wpList P ops Q rest (a.put o.dst v') w'):wpList P ops Q (o::rest) a w:=by
 have aj:l.length+d.length<=maxLen:=by
  have:=Nat.le_mul_of_pos_right (l.length+d.length) (show 0<bytes by omega);unfold maxLen;omega
 obtain⟨az,cap,rfl,aB,ap,aC,aD,aq⟩:=ao;cases az with
 | none=>
  have G:cap=0:=aq rfl;subst G;have au:d=[]:=List.eq_nil_of_length_eq_zero τ;subst au;refine wpList_append_own_none J s x t O base e i 1 Y hi v l.length (l.map (Value.int k)) U H aa ?_;exact h v w (by simpa using H) ⟨rfl,rfl,rfl,Nat.le_refl _,λ_ _ _=>rfl⟩ (Or.inl rfl)
 | some ad=>
  refine wpList_append_own_at w J s x t O base e i z 1 bytes Y hi ax av al ay ζ v l.length (l.map (Value.int k)) U H ad d.length cap (d.map (Value.int k)) aa η ?_ ?_ aj am ak ?_
  ·intro j u N;rw[List.getElem?_map] at N;obtain⟨y,ab,rfl⟩:=Option.map_eq_some_iff.1 N;obtain⟨ar,aE⟩:=List.getElem?_eq_some_iff.1 ab;obtain⟨b,ac,I,_,an⟩:=ap j ar;simp only[Option.some.injEq] at I;subst I;have af:(⟨b,ac,none⟩:Addr).add j=⟨b,ac+j,none⟩:=by
    unfold Addr.add;split
    ·rename_i G;subst G;rfl
    ·rfl
   rw[af,an,List.getD_eq_getElem?_getD,ab];rfl
  ·intro u aw;obtain⟨y,_,rfl⟩:=List.mem_map.1 aw;rfl
  ·intro v' w' ag ah _ ai;exact h v' w' (by simpa using ag) ah ai
theorem XB {w w':World} {base e size n:Nat} {v u:Value} {xs:List Value} (h:w.ownsRow base e size v n xs) (g:w.grownBy w' u.ownBlock) (d: ∀b,v.ownBlock=some b->u.ownBlock≠some b):w'.ownsRow base e size v n xs:=by
 obtain⟨G,H⟩:=h;refine⟨G, ?_⟩;rcases H with h | ⟨b,cap,cur,e1,hb,hg,rest⟩
 ·exact Or.inl h
 ·refine Or.inr ⟨b,cap,cur,e1,hb, ?_,rest⟩;rw[g.block b (lt_of_block hg) (by rw[e1] at d;exact λe=>d b rfl e.symm)];exact hg
theorem gB {w:World} {base e size n b:Nat} {v:Value} {xs:List Value} (h:w.ownsRow base e size v n xs) (d:v.ownBlock=some b):b<w.heap.size:=by
 rcases h.2 with ⟨rfl,_⟩ | ⟨G,cap,cur,rfl,_,H,_⟩
 ·cases d
 ·obtain rfl:G=b:=by injection d
  exact lt_of_block H
theorem jE {w w':World} {base e size n:Nat} {v:Value} {xs:List Value} (h:w.ownsRow base e size v n xs) (m:qa w w'):w'.ownsRow base e size v n xs:=by
 obtain⟨d,G⟩:=h;refine⟨d, ?_⟩;rcases G with h | ⟨b,cap,cur,e1,hb,hg,rest⟩
 ·exact Or.inl h
 ·exact Or.inr ⟨b,cap,cur,e1,hb,by rw[m.block b (lt_of_block hg)];exact hg,rest⟩
theorem SlI.take {k:IntKind} {w:World} {G:Option Addr} {n cap:Nat} {l:List Int} (h:SlI k w (δ G n cap) l) (m:Nat) (ac:m<=l.length):SlI k w (δ G m cap) (l.take m):=by
 obtain⟨ad,Y,e,aa,H,ab,I,J⟩:=h;cases e;have d:(l.take m).length=m:=by simp;omega
 refine⟨G,cap,by rw[d],by rw[d];omega,λi hi=> ?_,by rw[d];omega,I,J⟩;rw[d] at hi;obtain⟨b,U,e,N,O⟩:=H i τ;exact⟨b,U,e,N,by rw[O,List.getD_eq_getElem?_getD,List.getD_eq_getElem?_getD,List.getElem?_take,if_pos hi]⟩
theorem SlI.take3 {k:IntKind} {w:World} {G:Option Addr} {n cap:Nat} {l:List Int} (h:SlI k w (δ G n cap) l) (m:Nat) (ac:m<=l.length):SlI k w (δ G m m) (l.take m):=by
 obtain⟨ad,U,e,Y,H,aa,ab,I⟩:=h;cases e;have d:(l.take m).length=m:=by simp;omega
 refine⟨G,m,by rw[d],by rw[d];omega,λi hi=> ?_,by rw[d];omega,τ,λx=>by have:=I x;omega⟩;rw[d] at hi;obtain⟨b,O,e,J,N⟩:=H i τ;exact⟨b,O,e,J,by rw[N,List.getD_eq_getElem?_getD,List.getD_eq_getElem?_getD,List.getElem?_take,if_pos hi]⟩
theorem SlI.drop {k:IntKind} {w:World} {b d n cap:Nat} {l:List Int} (h:SlI k w (δ (some ⟨b,d,none⟩) n cap) l) (m:Nat) (ab:m<=l.length):SlI k w (δ (some ⟨b,d+m,none⟩) (n-m) (cap-m)) (l.drop m):=by
 obtain⟨ac,N,e,O,G,U,Y,aa⟩:=h;cases e;refine⟨_,cap-m,by rw[List.length_drop],by rw[List.length_drop];omega,λi hi=> ?_,by rw[List.length_drop];omega,τ,λh=>by cases h⟩;rw[List.length_drop] at hi;obtain⟨J,ad,e,H,I⟩:=G (m+i) τ;cases e;refine⟨b,d+m,rfl,H, ?_⟩;rw[Nat.add_assoc,I,List.getD_eq_getElem?_getD,List.getD_eq_getElem?_getD,List.getElem?_drop]
theorem SlI.from_ {k:IntKind} {w:World} {d:Option Addr} {n cap:Nat} {l:List Int} (h:SlI k w (δ d n cap) l) (m:Nat) (af:m<=l.length) (H:Option Addr) (G:H=if cap=m then d else d.map (·.add m)):SlI k w (δ H (n-m) (cap-m)) (l.drop m):=by
 obtain⟨ag,ab,e,ac,U,ad,ae,J⟩:=h;cases e;refine⟨H,cap-m,by rw[List.length_drop],by rw[List.length_drop];omega,λi hi=> ?_,by rw[List.length_drop];omega,τ,λh=> ?_⟩
 ·rw[List.length_drop] at hi;obtain⟨b,I,e,Y,aa⟩:=U (m+i) τ;rw[if_neg τ,e] at G;have N:(⟨b,I,none⟩:Addr).add m=⟨b,I+m,none⟩:=by
   unfold Addr.add;split
   ·rename_i O;subst O;rfl
   ·rfl
  refine⟨b,I+m,by rw[G,Option.map_some,N],Y, ?_⟩;rw[Nat.add_assoc,aa,List.getD_eq_getElem?_getD,List.getD_eq_getElem?_getD,List.getElem?_drop]
 ·subst G;split at h
  ·have:=J h;omega
  ·cases d with
   | none=>have:=J rfl;omega
   | some a=>simp at h
end
section
open _root_.Go.Proofs.Tryz
set_option maxHeartbeats 8000000
theorem EC (v:Value) (l:List Int) (w:World) (I:SlI .u8 w v l) (al:l.length<=1000000):
  Calls prog 50 #[v] w λe w'=> ∃v',e= .returned v'/\w'.ownsRow w.heap.size 5 1 v' l.length (l.map (Value.int .u8))/\qa w w':=by
 obtain⟨ag,hi,ac,ae,af⟩:=info_parts (P:=prog) (e:=5) (z:= υ 0) (size:=1) (bytes:=1) ξ;have d:=κ I;obtain⟨ah,cap,rfl,ai,G,aj,ak,H⟩:=I;cases ah with
 | none=>
  have O:cap=0:=H rfl;subst O;obtain rfl:l=[]:=List.eq_nil_of_length_eq_zero τ;clear d G;have Y:=Go.run_eql_slice_nil (P:=prog) w 35 5 none 0 0 underlying35
  go_enter func50,ntmps50
  go_wp2;go_ret;exact⟨_,rfl,⟨rfl,Or.inl ⟨rfl,rfl⟩⟩,qa.refl _⟩
 | some ad=>
  have aa:=World.ownsRow_lit (e:=5) (size:=1) (base:=w.heap.size) w #[] 0 (Nat.le_refl _) (by unfold maxLen;omega) rfl;clear G H;have Y:=Go.run_eql_slice_nil (P:=prog) w 35 5 (some ad) l.length cap underlying35
  go_enter func50,ntmps50
  go_wp2_with (at_builtin;refine xr _ rfl (.tmp 5) (.tmp 6) 35 rfl w.heap.size 5 ag (υ 0) 1 underlying35 hi ac ae af rfl _ .u8 [] rfl aa _ l rfl (d.o.keep (qa.alloc _ _)) (by simp;omega) ζ (qa.alloc w _).size ?_;intro v' w2 ab U;have N:=κ ab;have J:=κ U)
  go_ret;exact⟨_,rfl,N.o,(qa.alloc w (.cells #[] 5)).grown J.o (qa.alloc w _).size (by intro q h;cases h;exact Nat.le_refl _)⟩
theorem xC {S:Nat->Prop} {w w':World} {base e size n:Nat} {v:Value} {xs:List Value} (h:w.ownsRow base e size v n xs) (m:qg S w w') (H: ∀k,S k->k<base):w'.ownsRow base e size v n xs:=by
 obtain⟨d,G⟩:=h;refine⟨d, ?_⟩;rcases G with h | ⟨g,cap,cur,e1,hb,hg,rest⟩
 ·exact Or.inl h
 ·exact Or.inr ⟨g,cap,cur,e1,hb,m.blk hg (λx=>by have:=H g x;omega),rest⟩
theorem qT {w:World} {base e n:Nat} {v:Value} {xs:List Value} (h:w.ownsRow base e 1 v n xs): ∃oa m cap,v= δ oa m cap/\m=n/\n<=cap:=by
 rcases h.2 with ⟨rfl,e⟩ | ⟨b,cap,cur,rfl,_,_,d,_⟩
 ·exact⟨none,0,0,rfl,τ,τ⟩
 ·exact⟨_,_,cap,rfl,rfl,d⟩
theorem PI {w w':World} {base e size n b:Nat} {v:Value} {xs:List Value} {o:Obj} (g:w.grownBy w' v.ownBlock) (G:w.ownsRow base e size v n xs) (H:b<base) (h:w.heap[b]? =some o):w'.heap[b]? =some o:=by
 rw[g.block b (qn h)]
 ·exact h
 ·rcases G.2 with ⟨rfl,_⟩ | ⟨d,cap,cur,rfl,I,_⟩
  ·exact λx=>by cases x
  ·intro x;have:b=d:=by injection x
   omega
structure j5 (w:World) (W:Nat) (v:Value) (l:List Int):Prop where
 blk:w.heap[W]? =some (.cells #[v] 204 (0,0))
 row:w.ownsRow (W+1) 5 1 v l.length (l.map (Value.int .u8))
def WrS (W:Nat) (v:Value) (b:Nat):Prop:=b=W∨v.ownBlock=some b
theorem Cw {w:World} {W:Nat} {v:Value} {l:List Int} (h:j5 w W v l) (vb:Value) (lb:List Int) (O:SlI .u8 w vb lb) (ap:l.length+lb.length<=10000000):
  Calls prog 96 #[γ W,vb] w λe w'=>e= .returned (.tuple #[])/\(∃v',j5 w' W v' (l++lb)/\(v'.ownBlock=v.ownBlock∨v'.ownBlock=some w.heap.size))/\qg (WrS W v) w w':=by
 obtain⟨ak,hi,ah,ai,aj⟩:=info_parts (P:=prog) (e:=5) (z:= υ 0) (size:=1) (bytes:=1) ξ;have al:=β0 h.blk;have an:=qd h.blk 0;have ad:=qn h.blk;have H:=κ h;have ac:=κ O;clear h O
 go_enter func96,ntmps96
 go_wp2_with (at_builtin;refine qU _ rfl (.tmp 8) (.tmp 9) 35 rfl (W+1) 5 ak (υ 0) 1 underlying35 hi ah ai aj rfl v .u8 l rfl H.o.row _ lb rfl ac.o τ ζ ad ?_;intro v' w2 J I N;have aa:=κ J;have d:=κ I;have Y:=κ N;have G:=PI I H.o.row (Nat.lt_succ_self W) H.o.blk;have c2:=β0 G;have ao:=qd G 0;have ab:=κ G;obtain⟨ar,aq,am,rfl,af⟩:=qT J;clear J I N G af)
 refine bodyPost_end (v:= .tuple #[]) ?rr rfl ?_
 case rr=>simp[results,results96,go_sem]
 have U:qg (WrS W v) w w2:=⟨d.o.os,d.o.tape,d.o.output,d.o.size,λk ae ag=>d.o.block k ae (λe=>ag (Or.inr e.symm))⟩;refine⟨rfl,⟨_,⟨qB (qp ab.o 0 _) rfl, ?_⟩,Y.o⟩,U.set (Or.inl rfl) _⟩;exact xC (S:=λb=>b=W) aa.o ((qg.refl (λb=>b=W) w2).set (p:=⟨W,0,none⟩) rfl _) (by rintro k rfl;exact Nat.lt_succ_self _)
end
section
open _root_.Go.Proofs.Tryz
set_option maxHeartbeats 8000000
theorem j5.more {w w':World} {W:Nat} {v:Value} {l:List Int} (h:j5 w W v l) (m:qa w w'):j5 w' W v l:=⟨qc m h.blk,jE h.row m⟩
def un (w w':World) (W:Nat) (v:Value) (l:List Int):Prop:=
 (∃v',j5 w' W v' l/\(v'.ownBlock=v.ownBlock∨ ∃g,v'.ownBlock=some g/\w.heap.size<=g))/\qg (WrS W v) w w'
theorem un.after {w w1 w':World} {W:Nat} {v:Value} {l:List Int} (m:qa w w1) (h:un w1 w' W v l):un w w' W v l:=by
 obtain⟨⟨v',G,d⟩,a⟩:=h;refine⟨⟨v',G, ?_⟩,(qg.of_more m).trans a⟩;rcases d with d | ⟨g,d,h3⟩
 ·exact Or.inl d
 ·exact Or.inr ⟨g,d,Nat.le_trans m.size h3⟩
theorem uU {w:World} {W:Nat} {v:Value} {l:List Int} (h:j5 w W v l) (vb:Value) (lb:List Int) (J:SlI .u8 w vb lb) (I:l.length+lb.length<=10000000):
  Calls prog 96 #[γ W,vb] w λe w'=>e= .returned (.tuple #[])/\un w w' W v (l++lb):=
 (Cw h vb lb J I).mono λ_ _ ⟨H,⟨v',d,G⟩,a⟩=>⟨H,⟨v',d,G.imp id λe=>⟨_,e,Nat.le_refl _⟩⟩,a⟩
theorem uG {w:World} {W:Nat} {v:Value} {l:List Int} (h:j5 w W v l) (n s:Int) (H:0<=n/\n<=4294967295) (aa:1<=s/\s<=4) (U:l.length<=1000000):
  Calls prog 155 #[γ W,ω n,ι s] w λe w'=>e= .returned (.tuple #[])/\un w w' W v (l++qy n s):=by
 have G:=κ h;have Y:(qy n s).length<=8:=by
  obtain⟨k,rfl⟩: ∃k:Nat,s=k:=⟨s.toNat,τ⟩;unfold qy;rw[if_pos τ,zP];omega
 have I:U64 n:=by unfold U64;omega
 have N:I64 s:=by unfold I64;omega
 obtain⟨ab,n2⟩:=H;clear h
 go_enter func155,ntmps155
 go_wp2_with first | (go_at_call 208;refine(DA n s I N _).mono ?_;rintro e w1 ⟨v1,rfl,J,d⟩) | (go_at_call 96;refine(uU (G.o.more d) v1 _ J τ).mono ?_;rintro e w2 ⟨rfl,O⟩)
 refine bodyPost_end (v:= .tuple #[]) ?rr rfl ?_
 case rr=>simp[results,results155,go_sem]
 exact⟨rfl,O.after d⟩
theorem wk {w:World} {W:Nat} {v:Value} {l:List Int} (h:j5 w W v l) (n:Int) (I:0<=n/\n<=255) (H:l.length<=1000000):
  Calls prog 93 #[γ W,υ n] w λe w'=>e= .returned (.tuple #[])/\un w w' W v (l++qy n 1):=by
 have G:=κ h;have J:0<=n/\n<=4294967295:=by omega
 have d:=κ J;obtain⟨O,n2⟩:=I;clear h
 go_enter func93,ntmps93
 go_wp2_with (go_at_call 155;refine(uG G.o n 1 d.o ζ H).mono ?_;rintro e w2 ⟨rfl,N⟩)
 refine bodyPost_end (v:= .tuple #[]) ?rr rfl ?_
 case rr=>simp[results,results93,go_sem]
 exact⟨rfl,N⟩
theorem kU {w:World} {W:Nat} {v:Value} {l:List Int} (h:j5 w W v l) (n:Int) (I:0<=n/\n<=65535) (H:l.length<=1000000):
  Calls prog 94 #[γ W,φ n] w λe w'=>e= .returned (.tuple #[])/\un w w' W v (l++qy n 2):=by
 have G:=κ h;have J:0<=n/\n<=4294967295:=by omega
 have d:=κ J;obtain⟨O,n2⟩:=I;clear h
 go_enter func94,ntmps94
 go_wp2_with (go_at_call 155;refine(uG G.o n 2 d.o ζ H).mono ?_;rintro e w2 ⟨rfl,N⟩)
 refine bodyPost_end (v:= .tuple #[]) ?rr rfl ?_
 case rr=>simp[results,results94,go_sem]
 exact⟨rfl,N⟩
theorem uw {w:World} {W:Nat} {v:Value} {l:List Int} (h:j5 w W v l) (n:Int) (I:0<=n/\n<=4294967295) (H:l.length<=1000000):
  Calls prog 95 #[γ W,ω n] w λe w'=>e= .returned (.tuple #[])/\un w w' W v (l++qy n 4):=by
 have G:=κ h;have J:0<=n/\n<=4294967295:=by omega
 have d:=κ J;obtain⟨O,n2⟩:=I;clear h
 go_enter func95,ntmps95
 go_wp2_with (go_at_call 155;refine(uG G.o n 4 d.o ζ H).mono ?_;rintro e w2 ⟨rfl,N⟩)
 refine bodyPost_end (v:= .tuple #[]) ?rr rfl ?_
 case rr=>simp[results,results95,go_sem]
 exact⟨rfl,N⟩
theorem wZ {w:World} {W:Nat} {v:Value} {l:List Int} (h:j5 w W v l) (G:l.length<=1000000):
  Calls prog 97 #[γ W] w λe w'=> ∃v',e= .returned v'/\w'.ownsRow w.heap.size 5 1 v' l.length (l.map (Value.int .u8))/\qa w w':=by
 have J:=β0 h.blk;have d:=κ (SlI.of_owns h.row τ);clear h
 go_enter func97,ntmps97
 go_wp2_with (go_at_call 50;refine(EC v l w d.o G).mono ?_;rintro e w2 ⟨v2,rfl,I,H⟩)
 go_ret;exact⟨_,rfl,I,H⟩
end
end Go.Proofs.YtlmllmonabafjaaGreatDoor
