/- Contracts of the functions that the law reaches, and plain laws; no conditions but those written at each. -/
import Derived.Test.YtdgippmmaponfaaGreatMg0
import Derived.Handy
import Derived.Test.YtdgippmmaponfaaGreatRows
import Derived.Maps.AppendAt
import Derived.Lib.LazyBuf
namespace Go.Proofs.YtdgippmmaponfaaGreat
open Go.Value renaming bool->μ,slice->δ,pointer->π,agg->θ
open Go.IntKind renaming i64->ι,u8->υ,u16->φ,u32->ω,i32->χ,u64->ψ
set_option linter.unusedSimpArgs false
set_option linter.unusedVariables false
open Go.RowKit
set_option maxRecDepth 100000
theorem τ {P : Prop} (h : P := by omega) : P := h
theorem ξ {P : Prop} (h : P := by kernel_rfl) : P := h
theorem ζ {P : Prop} (h : P := by decide) : P := h
theorem η {P : Prop} (h : P := by simp) : P := h
theorem κ {p : Prop} (h : p) : RowKit.Hid p := h
theorem ν {α : Sort _} (a : α) : ∃ x, a = x := ⟨_, rfl⟩
theorem ρ {w w' : World} (h : qa w w' := by repeat (first | exact qa.refl _ | assumption | refine qa.dr ?_ _ | refine qa.al ?_ _ | refine qa.st ?_ (by simp) _)) : qa w w' := h
theorem σ {S : Nat → Prop} {w w' : World} (h : qg S w w' := by repeat (first | exact qg.refl _ _ | assumption | refine qg.drewN ?_ _ | refine qg.set ?_ (by first | rfl | exact Or.inl rfl | exact Or.inr rfl) _)) : qg S w w' := h
theorem _root_.Go.RowKit.Hid.o {p : Prop} (h : RowKit.Hid p) : p := h
theorem β0 {w : World} {b t : Nat} {v0 : Value} {c : List Value} (h : w.heap[b]? = some (.cells (v0 :: c).toArray t (0, 0))) : w.cell? ⟨b, 0, none⟩ = some v0 := qb h 0 (by simp)
theorem β1 {w : World} {b t : Nat} {v0 v1 : Value} {c : List Value} (h : w.heap[b]? = some (.cells (v0 :: v1 :: c).toArray t (0, 0))) : w.cell? ⟨b, 1, none⟩ = some v1 := qb h 1 (by simp)
theorem β2 {w : World} {b t : Nat} {v0 v1 v2 : Value} {c : List Value} (h : w.heap[b]? = some (.cells (v0 :: v1 :: v2 :: c).toArray t (0, 0))) : w.cell? ⟨b, 2, none⟩ = some v2 := qb h 2 (by simp)
theorem β3 {w : World} {b t : Nat} {v0 v1 v2 v3 : Value} {c : List Value} (h : w.heap[b]? = some (.cells (v0 :: v1 :: v2 :: v3 :: c).toArray t (0, 0))) : w.cell? ⟨b, 3, none⟩ = some v3 := qb h 3 (by simp)
theorem β4 {w : World} {b t : Nat} {v0 v1 v2 v3 v4 : Value} {c : List Value} (h : w.heap[b]? = some (.cells (v0 :: v1 :: v2 :: v3 :: v4 :: c).toArray t (0, 0))) : w.cell? ⟨b, 4, none⟩ = some v4 := qb h 4 (by simp)
theorem β5 {w : World} {b t : Nat} {v0 v1 v2 v3 v4 v5 : Value} {c : List Value} (h : w.heap[b]? = some (.cells (v0 :: v1 :: v2 :: v3 :: v4 :: v5 :: c).toArray t (0, 0))) : w.cell? ⟨b, 5, none⟩ = some v5 := qb h 5 (by simp)
theorem β6 {w : World} {b t : Nat} {v0 v1 v2 v3 v4 v5 v6 : Value} {c : List Value} (h : w.heap[b]? = some (.cells (v0 :: v1 :: v2 :: v3 :: v4 :: v5 :: v6 :: c).toArray t (0, 0))) : w.cell? ⟨b, 6, none⟩ = some v6 := qb h 6 (by simp)
theorem β7 {w : World} {b t : Nat} {v0 v1 v2 v3 v4 v5 v6 v7 : Value} {c : List Value} (h : w.heap[b]? = some (.cells (v0 :: v1 :: v2 :: v3 :: v4 :: v5 :: v6 :: v7 :: c).toArray t (0, 0))) : w.cell? ⟨b, 7, none⟩ = some v7 := qb h 7 (by simp)
theorem β8 {w : World} {b t : Nat} {v0 v1 v2 v3 v4 v5 v6 v7 v8 : Value} {c : List Value} (h : w.heap[b]? = some (.cells (v0 :: v1 :: v2 :: v3 :: v4 :: v5 :: v6 :: v7 :: v8 :: c).toArray t (0, 0))) : w.cell? ⟨b, 8, none⟩ = some v8 := qb h 8 (by simp)
theorem β9 {w : World} {b t : Nat} {v0 v1 v2 v3 v4 v5 v6 v7 v8 v9 : Value} {c : List Value} (h : w.heap[b]? = some (.cells (v0 :: v1 :: v2 :: v3 :: v4 :: v5 :: v6 :: v7 :: v8 :: v9 :: c).toArray t (0, 0))) : w.cell? ⟨b, 9, none⟩ = some v9 := qb h 9 (by simp)
theorem β10 {w : World} {b t : Nat} {v0 v1 v2 v3 v4 v5 v6 v7 v8 v9 v10 : Value} {c : List Value} (h : w.heap[b]? = some (.cells (v0 :: v1 :: v2 :: v3 :: v4 :: v5 :: v6 :: v7 :: v8 :: v9 :: v10 :: c).toArray t (0, 0))) : w.cell? ⟨b, 10, none⟩ = some v10 := qb h 10 (by simp)
theorem β11 {w : World} {b t : Nat} {v0 v1 v2 v3 v4 v5 v6 v7 v8 v9 v10 v11 : Value} {c : List Value} (h : w.heap[b]? = some (.cells (v0 :: v1 :: v2 :: v3 :: v4 :: v5 :: v6 :: v7 :: v8 :: v9 :: v10 :: v11 :: c).toArray t (0, 0))) : w.cell? ⟨b, 11, none⟩ = some v11 := qb h 11 (by simp)
theorem β12 {w : World} {b t : Nat} {v0 v1 v2 v3 v4 v5 v6 v7 v8 v9 v10 v11 v12 : Value} {c : List Value} (h : w.heap[b]? = some (.cells (v0 :: v1 :: v2 :: v3 :: v4 :: v5 :: v6 :: v7 :: v8 :: v9 :: v10 :: v11 :: v12 :: c).toArray t (0, 0))) : w.cell? ⟨b, 12, none⟩ = some v12 := qb h 12 (by simp)
theorem β13 {w : World} {b t : Nat} {v0 v1 v2 v3 v4 v5 v6 v7 v8 v9 v10 v11 v12 v13 : Value} {c : List Value} (h : w.heap[b]? = some (.cells (v0 :: v1 :: v2 :: v3 :: v4 :: v5 :: v6 :: v7 :: v8 :: v9 :: v10 :: v11 :: v12 :: v13 :: c).toArray t (0, 0))) : w.cell? ⟨b, 13, none⟩ = some v13 := qb h 13 (by simp)
theorem β14 {w : World} {b t : Nat} {v0 v1 v2 v3 v4 v5 v6 v7 v8 v9 v10 v11 v12 v13 v14 : Value} {c : List Value} (h : w.heap[b]? = some (.cells (v0 :: v1 :: v2 :: v3 :: v4 :: v5 :: v6 :: v7 :: v8 :: v9 :: v10 :: v11 :: v12 :: v13 :: v14 :: c).toArray t (0, 0))) : w.cell? ⟨b, 14, none⟩ = some v14 := qb h 14 (by simp)
theorem β15 {w : World} {b t : Nat} {v0 v1 v2 v3 v4 v5 v6 v7 v8 v9 v10 v11 v12 v13 v14 v15 : Value} {c : List Value} (h : w.heap[b]? = some (.cells (v0 :: v1 :: v2 :: v3 :: v4 :: v5 :: v6 :: v7 :: v8 :: v9 :: v10 :: v11 :: v12 :: v13 :: v14 :: v15 :: c).toArray t (0, 0))) : w.cell? ⟨b, 15, none⟩ = some v15 := qb h 15 (by simp)
theorem β16 {w : World} {b t : Nat} {v0 v1 v2 v3 v4 v5 v6 v7 v8 v9 v10 v11 v12 v13 v14 v15 v16 : Value} {c : List Value} (h : w.heap[b]? = some (.cells (v0 :: v1 :: v2 :: v3 :: v4 :: v5 :: v6 :: v7 :: v8 :: v9 :: v10 :: v11 :: v12 :: v13 :: v14 :: v15 :: v16 :: c).toArray t (0, 0))) : w.cell? ⟨b, 16, none⟩ = some v16 := qb h 16 (by simp)
theorem β17 {w : World} {b t : Nat} {v0 v1 v2 v3 v4 v5 v6 v7 v8 v9 v10 v11 v12 v13 v14 v15 v16 v17 : Value} {c : List Value} (h : w.heap[b]? = some (.cells (v0 :: v1 :: v2 :: v3 :: v4 :: v5 :: v6 :: v7 :: v8 :: v9 :: v10 :: v11 :: v12 :: v13 :: v14 :: v15 :: v16 :: v17 :: c).toArray t (0, 0))) : w.cell? ⟨b, 17, none⟩ = some v17 := qb h 17 (by simp)
theorem β18 {w : World} {b t : Nat} {v0 v1 v2 v3 v4 v5 v6 v7 v8 v9 v10 v11 v12 v13 v14 v15 v16 v17 v18 : Value} {c : List Value} (h : w.heap[b]? = some (.cells (v0 :: v1 :: v2 :: v3 :: v4 :: v5 :: v6 :: v7 :: v8 :: v9 :: v10 :: v11 :: v12 :: v13 :: v14 :: v15 :: v16 :: v17 :: v18 :: c).toArray t (0, 0))) : w.cell? ⟨b, 18, none⟩ = some v18 := qb h 18 (by simp)
theorem β19 {w : World} {b t : Nat} {v0 v1 v2 v3 v4 v5 v6 v7 v8 v9 v10 v11 v12 v13 v14 v15 v16 v17 v18 v19 : Value} {c : List Value} (h : w.heap[b]? = some (.cells (v0 :: v1 :: v2 :: v3 :: v4 :: v5 :: v6 :: v7 :: v8 :: v9 :: v10 :: v11 :: v12 :: v13 :: v14 :: v15 :: v16 :: v17 :: v18 :: v19 :: c).toArray t (0, 0))) : w.cell? ⟨b, 19, none⟩ = some v19 := qb h 19 (by simp)
theorem β20 {w : World} {b t : Nat} {v0 v1 v2 v3 v4 v5 v6 v7 v8 v9 v10 v11 v12 v13 v14 v15 v16 v17 v18 v19 v20 : Value} {c : List Value} (h : w.heap[b]? = some (.cells (v0 :: v1 :: v2 :: v3 :: v4 :: v5 :: v6 :: v7 :: v8 :: v9 :: v10 :: v11 :: v12 :: v13 :: v14 :: v15 :: v16 :: v17 :: v18 :: v19 :: v20 :: c).toArray t (0, 0))) : w.cell? ⟨b, 20, none⟩ = some v20 := qb h 20 (by simp)
instance:CoeFun IntKind (λ_=>Int->Value):=⟨.int⟩
instance:Coe Bool Value:=⟨.bool⟩
instance:Coe Unit Value:=⟨λ_=>.slice none 0 0⟩
inductive Mm | o
def γ (b:Nat):Mm:=.o
instance (b:Nat):CoeDep Mm (γ b) Value:=⟨.pointer (some ⟨b,0,none⟩)⟩
def Γa:Mm:=.o
instance:CoeDep Mm Γa (List Value):=⟨[ι 0,ι 0,μ false,μ false,υ 0,φ 0,ω 0,ω 0,δ none 0 0,μ false,φ 0,δ none 0 0,δ none 0 0]⟩
instance:CoeDep Mm Γa (Array Value):=⟨#[ι 0,ι 0,μ false,μ false,υ 0,φ 0,ω 0,ω 0,δ none 0 0,μ false,φ 0,δ none 0 0,δ none 0 0]⟩
instance:CoeDep Mm Γa Value:=⟨θ #[ι 0,ι 0,μ false,μ false,υ 0,φ 0,ω 0,ω 0,δ none 0 0,μ false,φ 0,δ none 0 0,δ none 0 0]⟩
def Γs:Mm:=.o
instance:CoeDep Mm Γs (List Value):=⟨[ι 0,δ none 0 0]⟩
instance:CoeDep Mm Γs (Array Value):=⟨#[ι 0,δ none 0 0]⟩
instance:CoeDep Mm Γs Value:=⟨θ #[ι 0,δ none 0 0]⟩
def Γb:Mm:=.o
instance:CoeDep Mm Γb (List Value):=⟨[ι 0,ι 0,μ false,μ false,υ 0,φ 0,ω 0,ω 0,δ none 0 0,μ false,φ 0,δ none 0 0,δ none 0 0,μ false]⟩
instance:CoeDep Mm Γb (Array Value):=⟨#[ι 0,ι 0,μ false,μ false,υ 0,φ 0,ω 0,ω 0,δ none 0 0,μ false,φ 0,δ none 0 0,δ none 0 0,μ false]⟩
instance:CoeDep Mm Γb Value:=⟨θ #[ι 0,ι 0,μ false,μ false,υ 0,φ 0,ω 0,ω 0,δ none 0 0,μ false,φ 0,δ none 0 0,δ none 0 0,μ false]⟩
def Γc:Mm:=.o
instance:CoeDep Mm Γc (List Value):=⟨[μ false,υ 0,φ 0,ω 0,ω 0,δ none 0 0,μ false,φ 0,δ none 0 0,δ none 0 0]⟩
instance:CoeDep Mm Γc (Array Value):=⟨#[μ false,υ 0,φ 0,ω 0,ω 0,δ none 0 0,μ false,φ 0,δ none 0 0,δ none 0 0]⟩
instance:CoeDep Mm Γc Value:=⟨θ #[μ false,υ 0,φ 0,ω 0,ω 0,δ none 0 0,μ false,φ 0,δ none 0 0,δ none 0 0]⟩
def Γd:Mm:=.o
instance:CoeDep Mm Γd (List Value):=⟨[μ false,ω 0,ω 0,ω 0,ω 0,ω 0,ω 0,δ none 0 0]⟩
instance:CoeDep Mm Γd (Array Value):=⟨#[μ false,ω 0,ω 0,ω 0,ω 0,ω 0,ω 0,δ none 0 0]⟩
instance:CoeDep Mm Γd Value:=⟨θ #[μ false,ω 0,ω 0,ω 0,ω 0,ω 0,ω 0,δ none 0 0]⟩
def Γe:Mm:=.o
instance:CoeDep Mm Γe (List Value):=⟨[ω 0,υ 0,χ 0,ω 0,ω 0,ω 0,ω 0]⟩
instance:CoeDep Mm Γe (Array Value):=⟨#[ω 0,υ 0,χ 0,ω 0,ω 0,ω 0,ω 0]⟩
instance:CoeDep Mm Γe Value:=⟨θ #[ω 0,υ 0,χ 0,ω 0,ω 0,ω 0,ω 0]⟩
def Γf:Mm:=.o
instance:CoeDep Mm Γf (List Value):=⟨[ι 0,μ false,ω 0,ω 0,ω 0,ω 0,ω 0,ω 0,δ none 0 0,ι 0,ω 0,ω 0,δ none 0 0,δ none 0 0,υ 0,υ 0,δ none 0 0]⟩
instance:CoeDep Mm Γf (Array Value):=⟨#[ι 0,μ false,ω 0,ω 0,ω 0,ω 0,ω 0,ω 0,δ none 0 0,ι 0,ω 0,ω 0,δ none 0 0,δ none 0 0,υ 0,υ 0,δ none 0 0]⟩
instance:CoeDep Mm Γf Value:=⟨θ #[ι 0,μ false,ω 0,ω 0,ω 0,ω 0,ω 0,ω 0,δ none 0 0,ι 0,ω 0,ω 0,δ none 0 0,δ none 0 0,υ 0,υ 0,δ none 0 0]⟩
def Γg:Mm:=.o
instance:CoeDep Mm Γg (List Value):=⟨[ι 0,ω 0,ω 0,δ none 0 0,δ none 0 0]⟩
instance:CoeDep Mm Γg (Array Value):=⟨#[ι 0,ω 0,ω 0,δ none 0 0,δ none 0 0]⟩
instance:CoeDep Mm Γg Value:=⟨θ #[ι 0,ω 0,ω 0,δ none 0 0,δ none 0 0]⟩
def Qo:Nat->Nat->List Nat->List (Nat×Bool)
 | _,0,_=>[]
 | i,k+1,L=>(i,L.elem i)::Qo (i+1) k L
theorem Qn {P:Program} {id:Nat} {Q:Exit->Act->World->Prop} {a:Act} {w:World} {l:List Oper} (w0:World) (T k:Nat) (L:List Nat) {n:List (Nat×Bool)} (h:zU P l T (λw'=> ∃x:qt w0,w'=x.w') (Q .normal) n a (w.drewN 1)) (e:Qo 0 k L=n:=by simp[Qo];exact rfl) (hm:P.follows .mixedOrders=true:=by kernel_rfl) (hB:(Region.noSelect l.toArray&&JG .any l.toArray T n (Array.replicate l.length false)&&decide (n.length=l.length)&&n.all λx=>decide (x.1<l.length))=true:=by kernel_rfl):(Code.region id l.toArray true).wp P Q a w:=zC w0 T n hm hB h
theorem QN {P:Program} {id:Nat} {Q:Exit->Act->World->Prop} {a:Act} {w:World} {l:List Oper} (S:Nat->Prop) (w0:World) (T k:Nat) (L:List Nat) {n:List (Nat×Bool)} (h:zU P l T (λw'=> ∃x:qz S w0,w'=x.w') (Q .normal) n a (w.drewN 1)) (e:Qo 0 k L=n:=by simp[Qo];exact rfl) (hm:P.follows .mixedOrders=true:=by kernel_rfl) (hB:(Region.noSelect l.toArray&&JG .any l.toArray T n (Array.replicate l.length false)&&decide (n.length=l.length)&&n.all λx=>decide (x.1<l.length))=true:=by kernel_rfl):(Code.region id l.toArray true).wp P Q a w:=zp S w0 T n hm hB h
theorem Qq {P Q:Prop} (k:Q) (h:(Unit->Q)->P:=by intro k;(repeat (refine qE rfl rfl (qk ρ) ?_;intro K hK;go_big_quiet_op;go_big_quiet_on));exact k ()):P:=h (λ_=>k)
theorem Qs {P Q:Prop} (k:Q) (h:(Unit->Q)->P:=by intro k;(repeat (refine qE rfl rfl (qi σ) ?_;intro K hK;go_big_quiet_op;go_big_quiet_on));exact k ()):P:=h (λ_=>k)
theorem Ql {P Q:Prop} (k:Q) (h:(Unit->Q)->P:=by intro k;refine jR rfl rfl ?_;intro K hK;unfold jn;go_simp;revert K hK;exact k ()):P:=h (λ_=>k)
theorem Qe {P Q:Prop} (k:Q) (h:(Unit->Q)->P:=by intro k;refine zY rfl rfl (by decide) ?_;intro K hK;unfold jn;go_simp;revert K hK;exact k ()):P:=h (λ_=>k)
def Ν2:Mm:=.o
instance:CoeDep Mm Ν2 Nat:=⟨2⟩
def Ν13:Mm:=.o
instance:CoeDep Mm Ν13 Nat:=⟨13⟩
def Ν14:Mm:=.o
instance:CoeDep Mm Ν14 Nat:=⟨14⟩
def Ν102:Mm:=.o
instance:CoeDep Mm Ν102 Nat:=⟨102⟩
def Ν107:Mm:=.o
instance:CoeDep Mm Ν107 Nat:=⟨107⟩
def Ν218:Mm:=.o
instance:CoeDep Mm Ν218 Nat:=⟨218⟩
def Ν220:Mm:=.o
instance:CoeDep Mm Ν220 Nat:=⟨220⟩
def Ν287:Mm:=.o
instance:CoeDep Mm Ν287 Nat:=⟨287⟩
def Ν289:Mm:=.o
instance:CoeDep Mm Ν289 Nat:=⟨289⟩
def Ν290:Mm:=.o
instance:CoeDep Mm Ν290 Nat:=⟨290⟩
def Ν292:Mm:=.o
instance:CoeDep Mm Ν292 Nat:=⟨292⟩
def Ν294:Mm:=.o
instance:CoeDep Mm Ν294 Nat:=⟨294⟩
section
open _root_.Go.Proofs.Tryz
set_option maxHeartbeats 8000000
theorem ZP (a s:Int) (h:May a s) (w:World):
  Calls prog 246 #[ι a,ι s] w λe w'=>e= .returned (μ true)/\w'=w:=by
 obtain⟨d,H,G,I⟩:=h
 go_enter func246,ntmps246
 go_wp2;go_ret;exact⟨rfl,rfl⟩
theorem BT (a s:Int) (H:I64 a) (G:I64 s) (h: ¬May a s) (w:World):
  Calls prog 246 #[ι a,ι s] w λe w'=>e= .returned (μ false)/\w'=w:=by
 obtain⟨J,N⟩:=H;obtain⟨I,M⟩:=G;have d:=κ h;clear h
 go_enter func246,ntmps246
 go_wp2
 all_goals
  go_ret;have h:=d.o;unfold May at h;exact⟨qZ (by first | rfl | (simp;omega)),rfl⟩
theorem Vw (s:Int) (G:0<=s) (d:s<=64) (w:World):
  Calls prog 247 #[ι s] w λe w'=>e= .returned (ψ (two s-1))/\w'=w:=by
 go_enter func247,ntmps247
 go_wp2;go_ret;exact⟨xV (EH s G d),rfl⟩
theorem QK (n:Int) (a s:Int) (G:U64 n) (h:May a s) (w:World):
  Calls prog 225 #[ψ n,ι a,ι s] w λe w'=>e= .returned (ψ (fld n a s))/\ ∃k,w'=w.drewN k:=by
 have I:=ZP a s h;have d:=Fj n a s G h;obtain⟨U,O,M,J⟩:=h;obtain⟨N,n2⟩:=G;have H:=κ d;clear d
 go_enter func225,ntmps225
 go_wp2_with (go_at_call 246;refine(I _).mono ?_;rintro e w' ⟨rfl,rfl⟩)
 go_quiet ((go_at_call 247;exact Calls.quiet_of_same (Vw s τ τ _)))
 go_wp2;go_ret;exact⟨xV H.o,_,rfl⟩
theorem FU (n v:Int) (a s:Int) (G:U64 n) (H:U64 v) (h:May a s) (w:World):
  Calls prog 239 #[ψ n,ι a,ι s,ψ v] w λe w'=>e= .returned (ψ (lay n a s v))/\ ∃k,w'=w.drewN k:=by
 have J:=ZP a s h;have d:=BY n a s v G H h;obtain⟨Y,U,N,M⟩:=h;obtain⟨O,n2⟩:=G;have I:=κ d;clear d
 go_enter func239,ntmps239
 go_wp2_with (first | (go_at_call 246;refine(J _).mono ?_;rintro e w' ⟨rfl,rfl⟩) | (go_at_call 247;refine(Vw _ τ τ _).mono ?_;rintro e w' ⟨rfl,rfl⟩))
 go_ret;exact⟨xV I.o,0,rfl⟩
theorem Lr (n v:Int) (a s:Int) (I:I64 a) (d:I64 s) (h: ¬May a s) (w:World):
  Calls prog 239 #[ψ n,ι a,ι s,ψ v] w λe w'=>e= .returned (ψ (lay n a s v))/\ ∃k,w'=w.drewN k:=by
 have G:=BT a s I d h;have H:=κ (show n=lay n a s v by unfold lay;rw[if_neg h]);clear h
 go_enter func239,ntmps239
 go_wp2_with (go_at_call 246;refine(G _).mono ?_;rintro e w' ⟨rfl,rfl⟩)
 go_ret;exact⟨xV H.o,0,rfl⟩
theorem FV (n v:Int) (a s:Int) (G:U64 n) (H:U64 v) (I:I64 a) (d:I64 s) (w:World):
  Calls prog 239 #[ψ n,ι a,ι s,ψ v] w λe w'=>e= .returned (ψ (lay n a s v))/\ ∃k,w'=w.drewN k:=by
 by_cases h:May a s
 ·exact FU n v a s G H h w
 ·exact Lr n v a s I d h w
theorem U9 (n s:Int) (H:U64 n) (G:I64 s) (w:World):
  Calls prog 266 #[ψ n,ι s] w λe w'=>e= .returned (ι (sgd n s))/\w'=w:=by
 obtain⟨I,n2⟩:=H;obtain⟨s1,s2⟩:=G;by_cases h1:1<=s
 ·by_cases h2:s<=64
  ·have d:=κ (AV n s h1 h2)
   go_enter func266,ntmps266
   go_wp2;go_ret;exact⟨xV d.o,rfl⟩
  ·have d:=κ (show 0=sgd n s by unfold sgd;rw[if_pos τ])
   go_enter func266,ntmps266
   go_wp2;go_ret;exact⟨xV d.o,rfl⟩
 ·have d:=κ (show 0=sgd n s by unfold sgd;rw[if_pos τ])
  go_enter func266,ntmps266
  go_wp2;go_ret;exact⟨xV d.o,rfl⟩
end
section
open _root_.Go.Proofs.Tryz
set_option maxHeartbeats 8000000
theorem GB (la lb:List Int) (j:Nat) (H:j<la.length) (G:j<lb.length) (h:la.take j=lb.take j) (d:(la[j] != lb[j])=false):la.take (j+1)=lb.take (j+1):=by
 rw[List.take_succ_eq_append_getElem H,List.take_succ_eq_append_getElem G,h];simp at d;rw[d]
theorem Xp (la lb:List Int) (M vb:Value) (w:World) (N:SlI .u8 w M la) (ac:SlI .u8 w vb lb):
  Calls prog 16 #[M,vb] w λe w'=>e= .returned (μ (decide (la=lb)))/\ ∃k,w'=w.drewN k:=by
 obtain⟨ah,ak,rfl,al,G,_,_,_⟩:=N;obtain⟨ao,ap,rfl,af,H,_,_,_⟩:=ac;by_cases hne:la.length=lb.length
 ·have U:((la.length:Int) != (lb.length:Int))=false:=by simp[hne]
  have Y:=κ G;have O:=κ H;have an:=κ hne;clear G H;have aj:lb.length<=la.length:=by omega
  have ae:la.length<=lb.length:=by omega
  clear hne
  go_enter func16,ntmps16
  go_wp2
  go_loopw [5] (λi wr=> ∃j k:Nat,j<=la.length/\i= ι j/\la.take j=lb.take j/\wr=w.drewN k) (λi _=>la.length-(intOf i).toNat)
  case atStart=>exact⟨0,0,τ,rfl,rfl,rfl⟩
  case round=>
   obtain⟨j,k,ai,rfl,J,rfl⟩:=hrel;have I:=κ J;clear J;by_cases hlt:j<la.length
   ·obtain⟨b,ad,rfl,_,ar⟩:=Y.o j hlt;obtain⟨am,aq,rfl,_,ag⟩:=O.o j τ;have ab:j<lb.length:=by omega
    go_wp2
    go_quiet (fail)
    go_wp2
    ·go_ret;have d: ¬la=lb:=by
      intro e;subst e;have:(la[j] != la[j])=true:=by assumption
      simp at this
     exact⟨qZ (by simp[d]),_,World.drewN_drewN _ _ _⟩
    ·have d:(la[j] != lb[j])=false:=by assumption
     go_roundw
     case rel=>exact⟨j+1,_,τ,by go_num,GB la lb j hlt ab I.o d,rfl⟩
     case measure=>simp[intOf];omega
   ·go_wp2;go_ret;exact⟨qZ (by simp;have:=I.o;rw[List.take_of_length_le τ,List.take_of_length_le τ] at this;exact this),_,rfl⟩
 ·have U:((la.length:Int) != (lb.length:Int))=true:=by simp;omega
  have aa:Hid (¬la=lb):=λh=>hne (by rw[h])
  clear G H hne
  go_enter func16,ntmps16
  go_wp2;go_ret;exact⟨qZ (by simp[aa.o]),0,rfl⟩
end
section
open _root_.Go.Proofs.Tryz
set_option maxHeartbeats 8000000
theorem KD (l:List Int) (v:Value) (w:World) (ah:8<l.length) (ac:SlI .u8 w v l) (O:Byt l):
  Calls prog 147 #[v] w λe w'=>e= .returned (ψ (num l))/\w'=w:=by
 obtain⟨ag,cap,rfl,an,H,al,_,_⟩:=ac;obtain⟨b,Y,rfl,_,_⟩:=H 0 τ;have aa:=κ H;have ab:=κ O;have J:=κ (BG l);clear H O
 go_enter func147,ntmps147
 go_wp2;obtain⟨d,M⟩: ∃d,d=l.length-8:=⟨_,rfl⟩;have N:=κ (show (l.drop d).length=8 by simp;omega);have aj:d+8<=l.length:=by omega
 have ak:l.length<=d+8:=by omega
 rw[<-M] at J ⊢;clear M
 go_loop [4,14] (λn i=> ∃j:Nat,j<=8/\i= ι j/\n= ψ (num ((l.drop d).take j))) (λ_ i=>8-(intOf i).toNat)
 case atStart=>exact⟨0,τ,rfl,by simp[num]⟩
 case round=>
  obtain⟨j,ai,rfl,rfl⟩:=hrel;by_cases hlt:j<8
  ·obtain⟨af,ao,I,_,U⟩:=aa.o (d+j) τ;simp only[Option.some.injEq,Addr.mk.injEq,and_true] at I;obtain⟨rfl,rfl⟩:=I;have am:d+j<l.length:=by omega
   have ae:w.cell? ⟨b,Y+d+j,none⟩=some (υ (l.getD (d+j) 0)):=by rw[Nat.add_assoc];exact U
   clear U
   have G:=ZJ (l.drop d) j (by rw[N.o];exact hlt) (λi=>by
    have:=ab.o (d+i)
    rwa [List.getD_eq_getElem?_getD,List.getElem?_drop,<-List.getD_eq_getElem?_getD])
   rw[List.getElem_drop] at G;have ad:=κ G;clear G;go_wp2
   go_round
   case rel=>exact⟨j+1,τ,by go_num,by rw[<-ad.o]⟩
   case measure=>simp[intOf];omega
  ·go_wp2;go_ret;exact⟨xV (by rw[List.take_of_length_le (by rw[N.o];omega)];exact J.o),rfl⟩
theorem Va (l:List Int) (v:Value) (w:World) (Y:l.length<=8) (H:SlI .u8 w v l) (G:Byt l):
  Calls prog 147 #[v] w λe w'=>e= .returned (ψ (num l))/\w'=w:=by
 obtain⟨U,cap,rfl,O,d,ab,_,_⟩:=H;have M:=κ d;have J:=κ G;clear d G
 go_enter func147,ntmps147
 go_wp2
 go_loop [4,14] (λn i=> ∃j:Nat,j<=l.length/\i= ι j/\n= ψ (num (l.take j))) (λ_ i=>l.length-(intOf i).toNat)
 case atStart=>exact⟨0,τ,rfl,by simp[num]⟩
 case round=>
  obtain⟨j,aa,rfl,rfl⟩:=hrel;by_cases hlt:j<l.length
  ·obtain⟨b,N,rfl,_,ac⟩:=M.o j hlt;have I:=κ (ZJ l j hlt J.o);go_wp2
   go_round
   case rel=>exact⟨j+1,τ,by go_num,by rw[<-I.o]⟩
   case measure=>simp[intOf];omega
  ·go_wp2;go_ret;exact⟨xV (by rw[List.take_of_length_le τ]),rfl⟩
theorem gg (l:List Int) (v:Value) (w:World) (d:SlI .u8 w v l) (G:Byt l):
  Calls prog 147 #[v] w λe w'=>e= .returned (ψ (num l))/\w'=w:=by
 by_cases h:8<l.length
 ·exact KD l v w h d G
 ·exact Va l v w τ d G
theorem Fi:(prog.info? 5).map (λi=>(i.zero,i.size,i.bytes))=some (some (υ 0),1,1):=by kernel_rfl
theorem Dz (n:Int) (s:Nat) (J:U64 n) (ae:s<=8) (w:World):
  Calls prog 146 #[ψ n,ι s] w λe w'=> ∃v,e= .returned v/\SlI .u8 w' v (bys n s)/\qa w w':=by
 obtain⟨ac,n2⟩:=J;obtain⟨O,hi,ab,M,N⟩:=info_parts Fi
 go_enter func146,ntmps146
 go_wp2_with (at_make;refine wpList_make_full _ rfl _ _ 34 rfl w.heap.size 5 O (υ 0) 1 underlying34 hi ab M _ _ _ _ s rfl rfl τ τ ?c1 ?c2 ?c3 ?_)
 case c1=>rw[N];omega
 case c2=>unfold maxLen;omega
 case c3=>omega
 intro w1 d I;have G:Below w.heap.size w w1:=(Below.refl _ _).grown I τ η;have H:w1.ownsRow w.heap.size 5 1 (δ (some ⟨w.heap.size,0,none⟩) s s) s ((vY n s 0).map (Value.int .u8)):=by
  rw[U0];simpa [toList_madeCells_one] using d
 clear d I;go_wp2
 go_loopw [16] (λi wr=> ∃k:Nat,k<=s/\i= ι k/\wr.ownsRow w.heap.size 5 1 (δ (some ⟨w.heap.size,0,none⟩) s s) s ((vY n s k).map (Value.int .u8))/\Below w.heap.size w wr) (λi _=>s-(intOf i).toNat)
 case atStart=>exact⟨0,τ,rfl,H,G⟩
 case round=>
  obtain⟨k,aa,rfl,d,G⟩:=hrel;clear H;by_cases hlt:k<s
  ·have Y:=d.cellAt (s-1-k) τ;have ad:=d.frozenAt (s-1-k);have U:=d.stored (s-1-k) (υ (by8 n k));rw[List.getElem?_map,List.getElem?_eq_getElem (by rw[Y4];omega),Option.map_some] at Y;go_wp2;go_roundw
   case rel=>exact⟨k+1,τ,by go_num,by rw[<-Dh n s k hlt,List.map_set];exact U.1,G.setCell (Nat.le_refl _) _⟩
   case measure=>simp[intOf];omega
  ·obtain rfl:k=s:=by omega
   clear hlt aa;go_wp2;refine bodyPost_ret (v:= δ (some ⟨w.heap.size,0,none⟩) k k) (by simp[results,results146,go_sem]) rfl ?_;rw[U3] at d;have:=zP n k;exact⟨_,rfl,SlI.of_owns (by rw[this];exact d) (by rw[this];omega),G⟩
end
section
set_option maxHeartbeats 8000000
theorem Ej (n s:Int) (G:1<=s) (d:s<=64):sgd n s%two s=n%two s:=by
 unfold sgd;rw[if_neg τ];split
 ·exact Int.emod_emod_of_dvd _ (Int.dvd_refl _)
 ·rw[Int.sub_emod_right];exact Int.emod_emod_of_dvd _ (Int.dvd_refl _)
theorem KR (n s:Int) (H:1<=s) (d:s<=64): -two (s-1)<=sgd n s/\sgd n s<two (s-1):=by
 have b:=gy (s-1);have q:=JX (k:=s-1) τ;rw[show s-1+1=s from by omega] at q;have c:=Int.emod_nonneg n (b:=two s) τ;have G:=Int.emod_lt_of_pos n (b:=two s) τ;unfold sgd;rw[if_neg τ];split<;>omega
theorem EW (n a s v:Int) (d:U64 n):U64 (lay n a s v):=by
 unfold lay;split
 ·have:=EX n.toNat a.toNat s.toNat v.toNat;unfold U64;omega
 ·exact d
theorem Py (n a s v:Int) (h:May a s):(lay n a s v).toNat=DC n.toNat a.toNat s.toNat v.toNat:=by
 unfold lay;rw[if_pos h];simp
theorem BN {d G:Nat} (H:d<18446744073709551616) (I:G<18446744073709551616) (h: ∀i,i<64->d.testBit i=G.testBit i):d=G:=by
 apply Nat.eq_of_testBit_eq;intro i;by_cases hi:i<64
 ·exact h i hi
 ·rw[Nat.testBit_lt_two_pow (Nat.lt_of_lt_of_le (m:=2 ^ 64) H (Nat.pow_le_pow_right τ τ)),Nat.testBit_lt_two_pow (Nat.lt_of_lt_of_le (m:=2 ^ 64) I (Nat.pow_le_pow_right τ τ))]
theorem VA (n:Int) (k:Nat):yJ (bys n k)=n%2 ^ (8* k):=by
 induction k with
 | zero=>simp[bys,yJ,Int.emod_one]
 | succ k ih=>
  rw[Cq,show by8 n k::bys n k=[by8 n k]++bys n k from rfl,Q7,ih,zP];unfold by8;rw[show (8* (k+1))=8* k+8 from by omega,Int.pow_add,show ((256:Int) ^ k)=2 ^ (8* k) from by rw[Int.pow_mul];rfl];have e:yJ [n/2 ^ (8* k)%256]=n/2 ^ (8* k)%256:=by simp[yJ]
  rw[e];have G:(0:Int)<2 ^ (8* k):=Int.pow_pos ζ;have I:=Int.emod_add_mul_ediv n (2 ^ (8* k));have H:=Int.emod_add_mul_ediv (n/2 ^ (8* k)) 256;have N:=Int.emod_nonneg n (b:=2 ^ (8* k)) τ;have M:=Int.emod_lt_of_pos n G;have O:=Int.emod_nonneg (n/2 ^ (8* k)) (b:=256) τ;have Y:=Int.emod_lt_of_pos (n/2 ^ (8* k)) (b:=256) τ;generalize (2:Int) ^ (8* k)=P at *;generalize n%P=R at *;generalize J:n/P=Q at *;generalize Q%256=r at *;generalize Q/256=q at *;have U:r* P<=255* P:=Int.mul_le_mul_of_nonneg_right τ τ;have aa:0<=r* P:=Int.mul_nonneg τ τ;have d:n=(r* P+R)+(P* 256)* q:=by
   rw[<-I,<-H,Int.mul_add,Int.mul_comm P r,<-Int.mul_assoc];omega
  rw[show (2:Int) ^ 8=256 from by decide];rw[d,Int.add_mul_emod_self_left];exact(Int.emod_eq_of_lt τ τ).symm
theorem Byt.snoc {l:List Int} {x:Int} (h:Byt (l++[x])):Byt l/\0<=x/\x<=255:=by
 constructor
 ·intro i;by_cases hi:i<l.length
  ·have:=h i
   rwa [List.getD_eq_getElem?_getD,List.getElem?_append_left hi,<-List.getD_eq_getElem?_getD] at this
  ·rw[List.getD_eq_getElem?_getD,List.getElem?_eq_none τ];simp
 ·have:=h l.length;rw[List.getD_eq_getElem?_getD,List.getElem?_append_right (Nat.le_refl _)] at this
  simpa using this
theorem BI (l:List Int): ∀m:List Int,l.length=m.length->Byt l->Byt m->yJ l=yJ m->l=m:=by
 refine gM (P:=λl=> ∀m:List Int,l.length=m.length->Byt l->Byt m->yJ l=yJ m->l=m) ?_ ?_ l
 ·intro m h _ _ _;exact(List.eq_nil_of_length_eq_zero (by simpa using h.symm)).symm
 ·intro l x H m d I M G;rcases List.eq_nil_or_concat m with rfl | ⟨m',y,rfl⟩
  ·simp at d
  ·rw[List.concat_eq_append] at *;rw[yR,yR] at G;obtain⟨J,U⟩:=I.snoc;obtain⟨O,Y⟩:=M.snoc;have N:x=y:=by omega
   have:=H m' (by simpa using d) J O τ;rw[this,N]
theorem JF (n:Int) (k:Nat):Byt (bys n k):=by
 intro i;rw[List.getD_eq_getElem?_getD];by_cases hi:i<(bys n k).length
 ·rw[List.getElem?_eq_getElem hi,Option.getD_some];simp only[bys,List.getElem_map];exact IX _ _
 ·rw[List.getElem?_eq_none τ];simp
theorem Yy (l:List Int) (h:Byt l):0<=yJ l/\yJ l<2 ^ (8* l.length):=by
 revert h
 refine gM (P:=λl=>Byt l->0<=yJ l/\yJ l<2 ^ (8* l.length)) ?_ ?_ l
 ·intro _;simp[yJ]
 ·intro l x d h;obtain⟨G,H⟩:=h.snoc;have:=d G;rw[yR,List.length_append,List.length_singleton,show 8* (l.length+1)=8* l.length+8 from by omega,Int.pow_add,show (2:Int) ^ 8=256 from by decide];omega
theorem uD (l:List Int) (h:Byt l) (H:l.length<=8):num l=yJ l:=by
 have d:=Yy l h;have G:(2:Int) ^ (8* l.length)<=2 ^ 64:=by
  have:=Nat.pow_le_pow_right (n:=2) τ (show 8* l.length<=64 by omega)
  exact_mod_cast this
 rw[Xh];exact Int.emod_eq_of_lt d.1 (Int.lt_of_lt_of_le d.2 G)
theorem Fv (l:List Int) (h:Byt l) (G:l.length<=8):bys (num l) l.length=l:=by
 apply BI _ _ (zP _ _) (JF _ _) h;have d:=Yy l h;rw[VA,uD l h G];exact Int.emod_eq_of_lt d.1 d.2
end
section
open _root_.Go.Proofs.Tryz
set_option maxHeartbeats 8000000
def qy (n s:Int):List Int:=if 0<=s/\s<=8 then bys n s.toNat else []
theorem gQ (n s:Int) (h:0<=s/\s<=8):qy n s=bys n s.toNat:=by unfold qy;rw[if_pos h]
theorem DA (n s:Int) (H:U64 n) (G:I64 s) (w:World):
  Calls prog 146 #[ψ n,ι s] w λe w'=> ∃v,e= .returned v/\SlI .u8 w' v (qy n s)/\qa w w':=by
 obtain⟨s1,s2⟩:=G;by_cases h:0<=s/\s<=8
 ·obtain⟨S,rfl⟩:=Int.eq_ofNat_of_zero_le h.1;rw[gQ _ _ h,Int.toNat_natCast];exact Dz n S H τ w
 ·have d:=κ (show qy n s=[] by unfold qy;rw[if_neg h]);by_cases h1:0<=s
  ·have I:8<s:=by omega
   clear h
   go_enter func146,ntmps146
   go_wp2;go_ret;exact⟨_,rfl,by rw[d.o];exact SlI.nil _ _,qa.refl _⟩
  ·clear h
   go_enter func146,ntmps146
   go_wp2;go_ret;exact⟨_,rfl,by rw[d.o];exact SlI.nil _ _,qa.refl _⟩
end
section
set_option maxHeartbeats 8000000
theorem qU {P:Program} (w:World) {ops:Array Oper} {rest:List Oper} {o:Oper} {a:Act} {Q:Exit->Act->World->Prop} (J:o.guard=none) (s x:Operand) (t:TypeId)
  (N:o.op= .call {callee:= .builtin .append,args:= #[s,x],argTypes:= #[t,t]})
  (base:Nat) (e:TypeId) (i:TypeInfo) (z:Value) (bytes:Nat) (ab:P.underlying t=some (.slice e)) (hi:P.info? e=some i) (ae:i.zero=some z)
  (ao:i.size=1) (ai:i.bytes=bytes) (al:z.cells.size=1)
  (v:Value) (k:IntKind) (l:List Int) (Y:a.eval s=v) (H:w.ownsRow base e 1 v l.length (l.map (Value.int k)))
  (O:Value) (d:List Int) (ac:a.eval x=O) (ax:SlI k w O d)
  (ag:(l.length+d.length)* bytes<=140737488355328) (aB:1<=bytes) (aj:base<=w.heap.size)
  (h: ∀v' w',w'.ownsRow base e 1 v' (l++d).length ((l++d).map (Value.int k))->w.grownBy w' v.ownBlock->(v'.ownBlock=v.ownBlock∨v'.ownBlock=some w.heap.size)->wpList P ops Q rest (a.put o.dst v') w'):wpList P ops Q (o::rest) a w:=by
 have ar:l.length+d.length<=maxLen:=by
  have:=Nat.le_mul_of_pos_right (l.length+d.length) (show 0<bytes by omega);unfold maxLen;omega
 obtain⟨am,cap,rfl,aA,af,aC,aD,aq⟩:=ax;cases am with
 | none=>
  have G:cap=0:=aq rfl;subst G;have av:d=[]:=List.eq_nil_of_length_eq_zero τ;subst av;refine wpList_append_own_none J s x t N base e i 1 ab hi v l.length (l.map (Value.int k)) Y H ac ?_;exact h v w (by simpa using H) ⟨rfl,rfl,rfl,Nat.le_refl _,λ_ _ _=>rfl⟩ (Or.inl rfl)
 | some ad=>
  refine wpList_append_own_at w J s x t N base e i z 1 bytes ab hi ae ao ai al ζ v l.length (l.map (Value.int k)) Y H ad d.length cap (d.map (Value.int k)) ac η ?_ ?_ ar ag aj ?_
  ·intro j u U;rw[List.getElem?_map] at U;obtain⟨y,M,rfl⟩:=Option.map_eq_some_iff.1 U;obtain⟨ah,az⟩:=List.getElem?_eq_some_iff.1 M;obtain⟨b,I,aa,_,an⟩:=af j ah;simp only[Option.some.injEq] at aa;subst aa;have ap:(⟨b,I,none⟩:Addr).add j=⟨b,I+j,none⟩:=by
    unfold Addr.add;split
    ·rename_i G;subst G;rfl
    ·rfl
   rw[ap,an,List.getD_eq_getElem?_getD,M];rfl
  ·intro u ak;obtain⟨y,_,rfl⟩:=List.mem_map.1 ak;rfl
  ·intro v' w' au ay _ aw;exact h v' w' (by simpa using au) ay aw
theorem XB {w w':World} {base e size n:Nat} {v u:Value} {xs:List Value} (h:w.ownsRow base e size v n xs) (g:w.grownBy w' u.ownBlock) (d: ∀b,v.ownBlock=some b->u.ownBlock≠some b):w'.ownsRow base e size v n xs:=by
 obtain⟨G,H⟩:=h;refine⟨G, ?_⟩;rcases H with h | ⟨b,cap,cur,e1,hb,hg,rest⟩
 ·exact Or.inl h
 ·refine Or.inr ⟨b,cap,cur,e1,hb, ?_,rest⟩;rw[g.block b (lt_of_block hg) (by rw[e1] at d;exact λe=>d b rfl e.symm)];exact hg
theorem gB {w:World} {base e size n b:Nat} {v:Value} {xs:List Value} (h:w.ownsRow base e size v n xs) (d:v.ownBlock=some b):b<w.heap.size:=by
 rcases h.2 with ⟨rfl,_⟩ | ⟨H,cap,cur,rfl,_,G,_⟩
 ·cases d
 ·obtain rfl:H=b:=by injection d
  exact lt_of_block G
theorem jE {w w':World} {base e size n:Nat} {v:Value} {xs:List Value} (h:w.ownsRow base e size v n xs) (m:qa w w'):w'.ownsRow base e size v n xs:=by
 obtain⟨d,G⟩:=h;refine⟨d, ?_⟩;rcases G with h | ⟨b,cap,cur,e1,hb,hg,rest⟩
 ·exact Or.inl h
 ·exact Or.inr ⟨b,cap,cur,e1,hb,by rw[m.block b (lt_of_block hg)];exact hg,rest⟩
theorem SlI.take {k:IntKind} {w:World} {G:Option Addr} {n cap:Nat} {l:List Int} (h:SlI k w (δ G n cap) l) (m:Nat) (aa:m<=l.length):SlI k w (δ G m cap) (l.take m):=by
 obtain⟨ac,U,e,ab,O,Y,I,J⟩:=h;cases e;have d:(l.take m).length=m:=by simp;omega
 refine⟨G,cap,by rw[d],by rw[d];omega,λi hi=> ?_,by rw[d];omega,I,J⟩;rw[d] at hi;obtain⟨b,H,e,N,M⟩:=O i τ;exact⟨b,H,e,N,by rw[M,List.getD_eq_getElem?_getD,List.getD_eq_getElem?_getD,List.getElem?_take,if_pos hi]⟩
theorem SlI.take3 {k:IntKind} {w:World} {G:Option Addr} {n cap:Nat} {l:List Int} (h:SlI k w (δ G n cap) l) (m:Nat) (aa:m<=l.length):SlI k w (δ G m m) (l.take m):=by
 obtain⟨ac,O,e,ab,N,Y,U,I⟩:=h;cases e;have d:(l.take m).length=m:=by simp;omega
 refine⟨G,m,by rw[d],by rw[d];omega,λi hi=> ?_,by rw[d];omega,τ,λx=>by have:=I x;omega⟩;rw[d] at hi;obtain⟨b,H,e,M,J⟩:=N i τ;exact⟨b,H,e,M,by rw[J,List.getD_eq_getElem?_getD,List.getD_eq_getElem?_getD,List.getElem?_take,if_pos hi]⟩
theorem SlI.drop {k:IntKind} {w:World} {b d n cap:Nat} {l:List Int} (h:SlI k w (δ (some ⟨b,d,none⟩) n cap) l) (m:Nat) (aa:m<=l.length):SlI k w (δ (some ⟨b,d+m,none⟩) (n-m) (cap-m)) (l.drop m):=by
 obtain⟨ab,M,e,ac,I,O,J,U⟩:=h;cases e;refine⟨_,cap-m,by rw[List.length_drop],by rw[List.length_drop];omega,λi hi=> ?_,by rw[List.length_drop];omega,τ,λh=>by cases h⟩;rw[List.length_drop] at hi;obtain⟨N,Y,e,H,G⟩:=I (m+i) τ;cases e;refine⟨b,d+m,rfl,H, ?_⟩;rw[Nat.add_assoc,G,List.getD_eq_getElem?_getD,List.getD_eq_getElem?_getD,List.getElem?_drop]
theorem SlI.from_ {k:IntKind} {w:World} {d:Option Addr} {n cap:Nat} {l:List Int} (h:SlI k w (δ d n cap) l) (m:Nat) (af:m<=l.length) (I:Option Addr) (H:I=if cap=m then d else d.map (·.add m)):SlI k w (δ I (n-m) (cap-m)) (l.drop m):=by
 obtain⟨ad,ae,e,ab,Y,ac,aa,J⟩:=h;cases e;refine⟨I,cap-m,by rw[List.length_drop],by rw[List.length_drop];omega,λi hi=> ?_,by rw[List.length_drop];omega,τ,λh=> ?_⟩
 ·rw[List.length_drop] at hi;obtain⟨b,G,e,O,N⟩:=Y (m+i) τ;rw[if_neg τ,e] at H;have U:(⟨b,G,none⟩:Addr).add m=⟨b,G+m,none⟩:=by
   unfold Addr.add;split
   ·rename_i M;subst M;rfl
   ·rfl
  refine⟨b,G+m,by rw[H,Option.map_some,U],O, ?_⟩;rw[Nat.add_assoc,N,List.getD_eq_getElem?_getD,List.getD_eq_getElem?_getD,List.getElem?_drop]
 ·subst H;split at h
  ·have:=J h;omega
  ·cases d with
   | none=>have:=J rfl;omega
   | some a=>simp at h
end
section
open _root_.Go.Proofs.Tryz
set_option maxHeartbeats 8000000
theorem ws (v:Value) (l:List Int) (w:World) (d:SlI .u8 w v l) (ak:l.length<=1000000):
  Calls prog 46 #[v] w λe w'=> ∃v',e= .returned v'/\w'.ownsRow w.heap.size 5 1 v' l.length (l.map (Value.int .u8))/\qa w w':=by
 obtain⟨ab,hi,aa,U,J⟩:=info_parts (P:=prog) (e:=5) (z:= υ 0) (size:=1) (bytes:=1) ξ;have G:=κ d;obtain⟨N,cap,rfl,ai,I,aj,ah,H⟩:=d;cases N with
 | none=>
  have M:cap=0:=H rfl;subst M;obtain rfl:l=[]:=List.eq_nil_of_length_eq_zero τ;clear G I;have ac:=Go.run_eql_slice_nil (P:=prog) w 34 5 none 0 0 underlying34
  go_enter func46,ntmps46
  go_wp2;go_ret;exact⟨_,rfl,⟨rfl,Or.inl ⟨rfl,rfl⟩⟩,qa.refl _⟩
 | some ad=>
  have ae:=World.ownsRow_lit (e:=5) (size:=1) (base:=w.heap.size) w #[] 0 (Nat.le_refl _) (by unfold maxLen;omega) rfl;clear I H;have ac:=Go.run_eql_slice_nil (P:=prog) w 34 5 (some ad) l.length cap underlying34
  go_enter func46,ntmps46
  go_wp2_with (at_builtin;refine xr _ rfl (.tmp 5) (.tmp 6) 34 rfl w.heap.size 5 ab (υ 0) 1 underlying34 hi aa U J rfl _ .u8 [] rfl ae _ l rfl (G.o.keep (qa.alloc _ _)) (by simp;omega) ζ (qa.alloc w _).size ?_;intro v' w2 Y af;have O:=κ Y;have ag:=κ af)
  go_ret;exact⟨_,rfl,O.o,(qa.alloc w (.cells #[] 5)).grown ag.o (qa.alloc w _).size (by intro q h;cases h;exact Nat.le_refl _)⟩
theorem xC {S:Nat->Prop} {w w':World} {base e size n:Nat} {v:Value} {xs:List Value} (h:w.ownsRow base e size v n xs) (m:qg S w w') (G: ∀k,S k->k<base):w'.ownsRow base e size v n xs:=by
 obtain⟨d,H⟩:=h;refine⟨d, ?_⟩;rcases H with h | ⟨g,cap,cur,e1,hb,hg,rest⟩
 ·exact Or.inl h
 ·exact Or.inr ⟨g,cap,cur,e1,hb,m.blk hg (λx=>by have:=G g x;omega),rest⟩
theorem qT {w:World} {base e n:Nat} {v:Value} {xs:List Value} (h:w.ownsRow base e 1 v n xs): ∃oa m cap,v= δ oa m cap/\m=n/\n<=cap:=by
 rcases h.2 with ⟨rfl,e⟩ | ⟨b,cap,cur,rfl,_,_,d,_⟩
 ·exact⟨none,0,0,rfl,τ,τ⟩
 ·exact⟨_,_,cap,rfl,rfl,d⟩
theorem PI {w w':World} {base e size n b:Nat} {v:Value} {xs:List Value} {o:Obj} (g:w.grownBy w' v.ownBlock) (d:w.ownsRow base e size v n xs) (H:b<base) (h:w.heap[b]? =some o):w'.heap[b]? =some o:=by
 rw[g.block b (qn h)]
 ·exact h
 ·rcases d.2 with ⟨rfl,_⟩ | ⟨G,cap,cur,rfl,I,_⟩
  ·exact λx=>by cases x
  ·intro x;have:b=G:=by injection x
   omega
structure j5 (w:World) (W:Nat) (v:Value) (l:List Int):Prop where
 blk:w.heap[W]? =some (.cells #[v] 131 (0,0))
 row:w.ownsRow (W+1) 5 1 v l.length (l.map (Value.int .u8))
def WrS (W:Nat) (v:Value) (b:Nat):Prop:=b=W∨v.ownBlock=some b
theorem Cw {w:World} {W:Nat} {v:Value} {l:List Int} (h:j5 w W v l) (vb:Value) (lb:List Int) (M:SlI .u8 w vb lb) (ao:l.length+lb.length<=10000000):
  Calls prog 51 #[γ W,vb] w λe w'=>e= .returned (.tuple #[])/\(∃v',j5 w' W v' (l++lb)/\(v'.ownBlock=v.ownBlock∨v'.ownBlock=some w.heap.size))/\qg (WrS W v) w w':=by
 obtain⟨aj,hi,ai,af,aa⟩:=info_parts (P:=prog) (e:=5) (z:= υ 0) (size:=1) (bytes:=1) ξ;have ap:=β0 h.blk;have ak:=qd h.blk 0;have U:=qn h.blk;have H:=κ h;have ae:=κ M;clear h M
 go_enter func51,ntmps51
 go_wp2_with (at_builtin;refine qU _ rfl (.tmp 8) (.tmp 9) 34 rfl (W+1) 5 aj (υ 0) 1 underlying34 hi ai af aa rfl v .u8 l rfl H.o.row _ lb rfl ae.o τ ζ U ?_;intro v' w2 I J N;have ab:=κ I;have d:=κ J;have ah:=κ N;have G:=PI J H.o.row (Nat.lt_succ_self W) H.o.blk;have c2:=β0 G;have al:=qd G 0;have Y:=κ G;obtain⟨am,an,aq,rfl,O⟩:=qT I;clear I J N G O)
 refine bodyPost_end (v:= .tuple #[]) ?rr rfl ?_
 case rr=>simp[results,results51,go_sem]
 have ag:qg (WrS W v) w w2:=⟨d.o.os,d.o.tape,d.o.output,d.o.size,λk ac ad=>d.o.block k ac (λe=>ad (Or.inr e.symm))⟩;refine⟨rfl,⟨_,⟨qB (qp Y.o 0 _) rfl, ?_⟩,ah.o⟩,ag.set (Or.inl rfl) _⟩;exact xC (S:=λb=>b=W) ab.o ((qg.refl (λb=>b=W) w2).set (p:=⟨W,0,none⟩) rfl _) (by rintro k rfl;exact Nat.lt_succ_self _)
end
section
open _root_.Go.Proofs.Tryz
set_option maxHeartbeats 8000000
theorem j5.more {w w':World} {W:Nat} {v:Value} {l:List Int} (h:j5 w W v l) (m:qa w w'):j5 w' W v l:=⟨qc m h.blk,jE h.row m⟩
def un (w w':World) (W:Nat) (v:Value) (l:List Int):Prop:=
 (∃v',j5 w' W v' l/\(v'.ownBlock=v.ownBlock∨ ∃g,v'.ownBlock=some g/\w.heap.size<=g))/\qg (WrS W v) w w'
theorem un.after {w w1 w':World} {W:Nat} {v:Value} {l:List Int} (m:qa w w1) (h:un w1 w' W v l):un w w' W v l:=by
 obtain⟨⟨v',G,d⟩,a⟩:=h;refine⟨⟨v',G, ?_⟩,(qg.of_more m).trans a⟩;rcases d with d | ⟨g,d,h3⟩
 ·exact Or.inl d
 ·exact Or.inr ⟨g,d,Nat.le_trans m.size h3⟩
theorem uU {w:World} {W:Nat} {v:Value} {l:List Int} (h:j5 w W v l) (vb:Value) (lb:List Int) (d:SlI .u8 w vb lb) (H:l.length+lb.length<=10000000):
  Calls prog 51 #[γ W,vb] w λe w'=>e= .returned (.tuple #[])/\un w w' W v (l++lb):=
 (Cw h vb lb d H).mono λ_ _ ⟨G,⟨v',J,I⟩,a⟩=>⟨G,⟨v',J,I.imp id λe=>⟨_,e,Nat.le_refl _⟩⟩,a⟩
theorem uG {w:World} {W:Nat} {v:Value} {l:List Int} (h:j5 w W v l) (n s:Int) (H:0<=n/\n<=4294967295) (aa:1<=s/\s<=4) (U:l.length<=1000000):
  Calls prog 95 #[γ W,ω n,ι s] w λe w'=>e= .returned (.tuple #[])/\un w w' W v (l++qy n s):=by
 have I:=κ h;have O:(qy n s).length<=8:=by
  obtain⟨k,rfl⟩: ∃k:Nat,s=k:=⟨s.toNat,τ⟩;unfold qy;rw[if_pos τ,zP];omega
 have M:U64 n:=by unfold U64;omega
 have J:I64 s:=by unfold I64;omega
 obtain⟨Y,n2⟩:=H;clear h
 go_enter func95,ntmps95
 go_wp2_with first | (go_at_call 146;refine(DA n s M J _).mono ?_;rintro e w1 ⟨v1,rfl,G,d⟩) | (go_at_call 51;refine(uU (I.o.more d) v1 _ G τ).mono ?_;rintro e w2 ⟨rfl,N⟩)
 refine bodyPost_end (v:= .tuple #[]) ?rr rfl ?_
 case rr=>simp[results,results95,go_sem]
 exact⟨rfl,N.after d⟩
theorem wk {w:World} {W:Nat} {v:Value} {l:List Int} (h:j5 w W v l) (n:Int) (d:0<=n/\n<=255) (H:l.length<=1000000):
  Calls prog 48 #[γ W,υ n] w λe w'=>e= .returned (.tuple #[])/\un w w' W v (l++qy n 1):=by
 have G:=κ h;have I:0<=n/\n<=4294967295:=by omega
 have M:=κ I;obtain⟨N,n2⟩:=d;clear h
 go_enter func48,ntmps48
 go_wp2_with (go_at_call 95;refine(uG G.o n 1 M.o ζ H).mono ?_;rintro e w2 ⟨rfl,J⟩)
 refine bodyPost_end (v:= .tuple #[]) ?rr rfl ?_
 case rr=>simp[results,results48,go_sem]
 exact⟨rfl,J⟩
theorem kU {w:World} {W:Nat} {v:Value} {l:List Int} (h:j5 w W v l) (n:Int) (d:0<=n/\n<=65535) (H:l.length<=1000000):
  Calls prog 49 #[γ W,φ n] w λe w'=>e= .returned (.tuple #[])/\un w w' W v (l++qy n 2):=by
 have G:=κ h;have I:0<=n/\n<=4294967295:=by omega
 have M:=κ I;obtain⟨N,n2⟩:=d;clear h
 go_enter func49,ntmps49
 go_wp2_with (go_at_call 95;refine(uG G.o n 2 M.o ζ H).mono ?_;rintro e w2 ⟨rfl,J⟩)
 refine bodyPost_end (v:= .tuple #[]) ?rr rfl ?_
 case rr=>simp[results,results49,go_sem]
 exact⟨rfl,J⟩
theorem uw {w:World} {W:Nat} {v:Value} {l:List Int} (h:j5 w W v l) (n:Int) (d:0<=n/\n<=4294967295) (H:l.length<=1000000):
  Calls prog 50 #[γ W,ω n] w λe w'=>e= .returned (.tuple #[])/\un w w' W v (l++qy n 4):=by
 have G:=κ h;have I:0<=n/\n<=4294967295:=by omega
 have M:=κ I;obtain⟨N,n2⟩:=d;clear h
 go_enter func50,ntmps50
 go_wp2_with (go_at_call 95;refine(uG G.o n 4 M.o ζ H).mono ?_;rintro e w2 ⟨rfl,J⟩)
 refine bodyPost_end (v:= .tuple #[]) ?rr rfl ?_
 case rr=>simp[results,results50,go_sem]
 exact⟨rfl,J⟩
theorem wZ {w:World} {W:Nat} {v:Value} {l:List Int} (h:j5 w W v l) (d:l.length<=1000000):
  Calls prog 52 #[γ W] w λe w'=> ∃v',e= .returned v'/\w'.ownsRow w.heap.size 5 1 v' l.length (l.map (Value.int .u8))/\qa w w':=by
 have J:=β0 h.blk;have I:=κ (SlI.of_owns h.row τ);clear h
 go_enter func52,ntmps52
 go_wp2_with (go_at_call 46;refine(ws v l w I.o d).mono ?_;rintro e w2 ⟨v2,rfl,G,H⟩)
 go_ret;exact⟨_,rfl,G,H⟩
end
section
open _root_.Go.Proofs.Tryz
set_option maxHeartbeats 8000000
theorem jG {w:World} {base e size n b:Nat} {v:Value} {xs:List Value} (h:w.ownsRow base e size v n xs) (d:v.ownBlock=some b):base<=b:=by
 rcases h.2 with ⟨rfl,_⟩ | ⟨H,cap,cur,rfl,G,_⟩
 ·cases d
 ·obtain rfl:H=b:=by injection d
  exact G
theorem un.to_more {d w w':World} {W:Nat} {v:Value} {l J:List Int} (G:un w w' W v l) (h:j5 w W v J) (m:qa d w) (H:d.heap.size<=W):qa d w':=
 qg.to_more m G.2 (by
  rintro k (rfl | I)
  ·exact H
  ·have:=jG h.row I;omega)
theorem Jv {d w w':World} {R:Nat} (a:qg (λb=>b=R) w w') (m:qa d w) (G:d.heap.size<=R):qa d w':=
 qg.to_more m a (by rintro k rfl;exact G)
theorem wR (w:World):j5 (w.alloc (.cells #[δ none 0 0] 131)) w.heap.size (δ none 0 0) []:=⟨qj _ _,⟨rfl,Or.inl ⟨rfl,rfl⟩⟩⟩
structure WrK (w0 w:World) (W:Nat) (v:Value) (l:List Int) (B:Nat) (o:Obj):Prop where
 wr:j5 w W v l
 more:qa w0 w
 base:w0.heap.size<=W
 keep:w.heap[B]? =some o
 ne: ¬B=W
 apart:v.ownBlock≠some B
theorem WrK.new {d w:World} {W:Nat} {v:Value} {l:List Int} (o:Obj) (h:j5 w W v l) (m:qa d w) (b:d.heap.size<=W):WrK d (w.alloc o) W v l w.heap.size o:=
 ⟨h.more (qa.alloc w o),m.al o,b,qj w o,λe=>by have:=qn h.blk;omega,λe=>by have:=gB h.row e;omega⟩
theorem WrK.wrote {G w w':World} {W:Nat} {v:Value} {l l':List Int} {B:Nat} {o:Obj} (h:WrK G w W v l B o) (x:un w w' W v l'): ∃v',WrK G w' W v' l' B o:=by
 have H:=x.to_more h.wr h.more h.base;obtain⟨⟨v',I,d⟩,a⟩:=x;refine⟨v',I,H,h.base,a.blk h.keep ?_,h.ne, ?_⟩
 ·rintro(e | e)
  ·exact h.ne e
  ·exact h.apart e
 ·intro e;rcases d with d | ⟨g,d,h3⟩
  ·exact h.apart (by rw[<-d];exact e)
  ·rw[e] at d;obtain rfl:B=g:=by injection d
   have:=qn h.keep;omega
structure qu (w:World) (R:Nat) (left:List Int) (wrong:Int) (C:Nat->Prop:=λ_=>True):Prop where
 blk: ∃v,w.heap[R]? =some (.cells #[v,.int .i64 wrong] 211 (0,0))/\SlI .u8 w v left/\(¬left=[]-> ∀g,v.ownBlock=some g->C g)
 small:left.length<=1000000
 byt:Byt left
 shut: ¬wrong=0->left=[]
theorem qu.more {w w':World} {R:Nat} {l:List Int} {e:Int} {C:Nat->Prop} (h:qu w R l e C) (m:qa w w'):qu w' R l e C:=by
 obtain⟨⟨v,M,J,I⟩,G,d,H⟩:=h;exact⟨⟨v,qc m M,J.keep m,I⟩,G,d,H⟩
theorem qu.mono {w:World} {R:Nat} {l:List Int} {e:Int} {C D:Nat->Prop} (h:qu w R l e C) (k: ∀g,C g->D g):qu w R l e D:=by
 obtain⟨⟨v,M,J,I⟩,G,d,H⟩:=h;exact⟨⟨v,M,J,λx g y=>k g (I x g y)⟩,G,d,H⟩
theorem qu.old {w:World} {R:Nat} {l:List Int} {e:Int} {C:Nat->Prop} (h:qu w R l e C):qu w R l e (λg=>C g/\g<w.heap.size):=by
 obtain⟨⟨v,O,d,N⟩,H,G,J⟩:=h;refine⟨⟨v,O,d,λx g y=>⟨N x g y, ?_⟩⟩,H,G,J⟩;obtain⟨Y,cap,rfl,_,I,_⟩:=d;obtain⟨b,U,rfl,M,_⟩:=I 0 (List.length_pos_iff.2 x);obtain rfl:b=g:=by injection y
 exact M
theorem AU {D:Nat->Prop} {w w':World} {v:Value} {l:List Int} (h:SlI .u8 w v l) (N: ¬l=[]-> ∀b,v.ownBlock=some b-> ¬D b) (a:qg D w w'):SlI .u8 w' v l:=by
 obtain⟨J,cap,rfl,O,I,H⟩:=h;refine⟨J,cap,rfl,O,λi hi=> ?_,H⟩;obtain⟨b,G,rfl,d,M⟩:=I i hi;exact⟨b,G,rfl,Nat.lt_of_lt_of_le d a.size,by rw[a.cells b _ d (N (λe=>by rw[e] at hi;simp at hi) b rfl)];exact M⟩
theorem qu.off {D:Nat->Prop} {w w':World} {R:Nat} {l:List Int} {e:Int} {C:Nat->Prop} (h:qu w R l e C) (m:qg D w w') (J: ¬D R) (M: ∀g,C g-> ¬D g):qu w' R l e C:=by
 obtain⟨⟨v,O,N,d⟩,H,G,I⟩:=h;exact⟨⟨v,m.blk O J,AU N (λx b y=>M b (d x b y)) m,d⟩,H,G,I⟩
theorem Ke {w:World} {R:Nat} {l:List Int} {e:Int} {C:Nat->Prop} (h:qu w R l e C) (o:Nat) (x:Int):w.cell? ⟨R,o,none⟩≠some (υ x):=by
 obtain⟨⟨v,d,⟨G,cap,rfl,_⟩,_⟩,_⟩:=h;rw[cell_of_row w R o _ _ _ d]
 match o with
 | 0=>simp
 | 1=>simp
 | n+2=>simp
theorem SlI.away {S:Nat->Prop} {w w':World} {v:Value} {l:List Int} (h:SlI .u8 w v l) (m:qg S w w') (O: ∀b,S b-> ∀o x,w.cell? ⟨b,o,none⟩≠some (υ x)):SlI .u8 w' v l:=by
 obtain⟨M,cap,N,U,J,I⟩:=h;refine⟨M,cap,N,U,λi hi=> ?_,I⟩;obtain⟨b,H,e,G,d⟩:=J i hi;exact⟨b,H,e,Nat.lt_of_lt_of_le G m.size,by rw[m.cells b _ G (λs=>O b s _ _ d)];exact d⟩
theorem xh:Byt []:=by intro i;simp
theorem Byt.drop {l:List Int} (h:Byt l) (n:Nat):Byt (l.drop n):=by
 intro i;have:=h (n+i);rw[List.getD_eq_getElem?_getD] at this ⊢;rw[List.getElem?_drop];exact this
theorem Byt.take {l:List Int} (h:Byt l) (n:Nat):Byt (l.take n):=by
 intro i;have:=h i;rw[List.getD_eq_getElem?_getD] at this ⊢;rw[List.getElem?_take];split
 ·exact this
 ·simp
def tkB (l:List Int) (n:Int):List Int:=if n<=l.length then l.take n.toNat else []
def tkL (l:List Int) (n:Int):List Int:=l.drop n.toNat
def tkE (l:List Int) (n e:Int):Int:=if (l.length:Int)<n/\e=0 then 3 else e
theorem Eh (a b:List Int):tkB (a++b) a.length=a:=by
 unfold tkB;rw[if_pos (by simp;omega)];simp
theorem Ef (a b:List Int):tkL (a++b) a.length=b:=by
 unfold tkL;simp
theorem Eg (a b:List Int) (e:Int):tkE (a++b) a.length e=e:=by
 unfold tkE;rw[if_neg (by simp;omega)]
theorem zZ {a b:List Int} (d:Byt a) (G:Byt b):Byt (a++b):=by
 intro i;by_cases h:i<a.length
 ·have:=d i;rw[List.getD_eq_getElem?_getD] at this ⊢;rw[List.getElem?_append_left h];exact this
 ·have:=G (i-a.length);rw[List.getD_eq_getElem?_getD] at this ⊢;rw[List.getElem?_append_right τ];exact this
theorem zn {w:World} {R:Nat} {l:List Int} {e:Int} {C:Nat->Prop} (h:qu w R l e C):
  Calls prog 59 #[γ R] w λG w'=>G= .returned (ι l.length)/\w'=w:=by
 obtain⟨⟨v,d,⟨I,cap,rfl,_⟩,_⟩,_⟩:=h;have H:=β0 d;clear d
 go_enter func59,ntmps59
 go_wp2;go_ret;exact⟨rfl,rfl⟩
theorem Lx (v:Value) (l:List Int) (w:World) (N:SlI .u8 w v l) (M:Byt l) (G:l.length<=1000000):
  Calls prog 53 #[v] w λe w'=> ∃R,e= .returned (γ R)/\w.heap.size<=R/\qu w' R l 0/\qa w w':=by
 go_enter func53,ntmps53
 go_wp2_with (go_at_call 46;refine(ws v l w N G).mono ?_;rintro e w2 ⟨v2,rfl,d,H⟩;have O:=κ d;have I:=κ H;obtain⟨aa,U,Y,rfl,J⟩:=qT d;clear d H J)
 go_ret;exact⟨_,rfl,I.o.size,⟨⟨_,qj _ _,(SlI.of_owns O.o τ).keep (qa.alloc _ _),λ_ _ _=>trivial⟩,G,M,λh=>absurd rfl h⟩,I.o.al _⟩
theorem km (v:Value) (l:List Int) (w:World) (O:SlI .u8 w v l) (N:Byt l) (H:l.length<=1000000):
  Calls prog 53 #[v] w λe w'=> ∃R,e= .returned (γ R)/\w.heap.size<=R/\qu w' R l 0 (λg=>w.heap.size<=g/\g<w'.heap.size)/\qa w w':=by
 go_enter func53,ntmps53
 go_wp2_with (go_at_call 46;refine(ws v l w O H).mono ?_;rintro e w2 ⟨v2,rfl,d,I⟩;have G:=κ d;have J:=κ I;obtain⟨aa,U,Y,rfl,M⟩:=qT d;clear d I M)
 go_ret;exact⟨_,rfl,J.o.size,⟨⟨_,qj _ _,(SlI.of_owns G.o τ).keep (qa.alloc _ _),λ_ g y=>⟨jG G.o y,Nat.lt_of_lt_of_le (gB G.o y) (qa.alloc _ _).size⟩⟩,H,N,λh=>absurd rfl h⟩,J.o.al _⟩
theorem gf {w:World} {R:Nat} {l:List Int} {e:Int} {C:Nat->Prop} (h:qu w R l e C) (x:Int) (d:x=0∨(¬x=0/\ ¬e=0)):
  Calls prog 57 #[γ R,ι x] w λH w'=>H= .returned (.tuple #[])/\w'=w:=by
 obtain⟨⟨v,G,J,I⟩,_⟩:=h;have c1:=β1 G;clear G J I;rcases d with d | ⟨d,he⟩
 ·subst d
  go_enter func57,ntmps57
  go_wp2;refine bodyPost_ret (v:= .tuple #[]) ?rr rfl ?_
  case rr=>simp[results,results57,go_sem]
  exact⟨rfl,rfl⟩
 ·have M:(x==0)=false:=by simpa using d
  have N:(e != 0)=true:=by simpa using he
  go_enter func57,ntmps57
  go_wp2;refine bodyPost_ret (v:= .tuple #[]) ?rr rfl ?_
  case rr=>simp[results,results57,go_sem]
  exact⟨rfl,rfl⟩
theorem Jd {w:World} {R:Nat} {l:List Int} {C:Nat->Prop} (h:qu w R l 0 C) (x:Int) (I: ¬x=0):
  Calls prog 57 #[γ R,ι x] w λH w'=>H= .returned (.tuple #[])/\qu w' R [] x C/\qg (λb=>b=R) w w':=by
 obtain⟨⟨v,d,⟨M,cap,rfl,_⟩,_⟩,_⟩:=h;have J:=β0 d;have c1:=β1 d;have N:=qd d 0;have U:=qd d 1;have G:=κ d;have O:(x==0)=false:=by simpa using I
 clear d
 go_enter func57,ntmps57
 go_wp2;refine bodyPost_end (v:= .tuple #[]) ?rr rfl ?_
 case rr=>simp[results,results57,go_sem]
 exact⟨rfl,⟨⟨_,qB (qp (qp G.o 1 _) 0 _) rfl,SlI.nil _ _,λx=>absurd rfl x⟩,η,xh,λ_=>rfl⟩,((qg.refl (λb=>b=R) w).set (p:=⟨R,1,none⟩) rfl _).set (p:=⟨R,0,none⟩) rfl _⟩
theorem Wg {w:World} {R:Nat} {l:List Int} {e:Int} (n:Int) (G:n<=0) {C:Nat->Prop} (h:qu w R l e C):
  Calls prog 97 #[γ R,ι n] w λd w'=>d= .returned (δ none 0 0)/\w'=w:=by
 clear h
 go_enter func97,ntmps97
 go_wp2;go_ret;exact⟨rfl,rfl⟩
theorem Y9 {w:World} {R:Nat} {l:List Int} {e:Int} (n:Int) (O:0<n) (J:(l.length:Int)<n) {C:Nat->Prop} (h:qu w R l e C):
  Calls prog 97 #[γ R,ι n] w λM w'=>M= .returned (δ none 0 0)/\qu w' R [] (tkE l n e) C/\qg (λb=>b=R) w w':=by
 have d:=κ h;obtain⟨⟨v,H,⟨Y,cap,rfl,_⟩,_⟩,_⟩:=h;have U:=β0 H;clear H;by_cases he:e=0
 ·subst he
  go_enter func97,ntmps97
  go_wp2_with (go_at_call 57;refine(Jd d.o 3 ζ).mono ?_;rintro e w2 ⟨rfl,N,I⟩)
  go_ret;refine⟨rfl, ?_,I⟩;have:tkE l n 0=3:=by unfold tkE;rw[if_pos ⟨J,rfl⟩]
  rw[this];exact N
 ·go_enter func97,ntmps97
  go_wp2_with (go_at_call 57;refine(gf d.o 3 (Or.inr ⟨ζ,he⟩)).mono ?_;rintro e w2 ⟨rfl,rfl⟩)
  go_ret;have G:=d.o;have:tkE l n e=e:=by unfold tkE;rw[if_neg (λx=>he x.2)]
  rw[this];obtain rfl:=G.shut he;exact⟨rfl,G,qg.refl _ _⟩
theorem Bx {d:Option Addr} {c n g m G k k':Nat} (h:(δ (if c=n then d else d.map (·.add n)) m k).ownBlock=some g):(δ d G k').ownBlock=some g:=by
 by_cases e:c=n
 ·rw[if_pos e] at h;cases d<;>exact h
 ·rw[if_neg e] at h;cases d with
  | none=>exact h
  | some a=>
   simp only[Option.map_some,Value.ownBlock] at h ⊢;rw[<-h];unfold Addr.add;split<;>rfl
theorem KB {w:World} {R:Nat} {l:List Int} {e:Int} (n:Nat) (ax:0<n) (ac:n<=l.length) {C:Nat->Prop} (h:qu w R l e C):
  Calls prog 97 #[γ R,ι n] w λam w'=> ∃v',am= .returned v'/\SlI .u8 w' v' (l.take n)/\qu w' R (l.drop n) e C/\qg (λb=>b=R) w w':=by
 have au:=κ h;have N:=λo x=>Ke h o x
 have ai:=κ N;obtain⟨⟨v,H,ae,O⟩,ay,aj,ab⟩:=h;have af:=κ O;clear O;have ak:=κ H;have U:=κ ae;obtain⟨I,cap,rfl,ah,ap,an,ag,ao⟩:=ae;have az:=β0 H;have av:=qd H 0;have aB: ¬(l.length:Int)<(n:Int):=by omega
 have aw:(n:Int)<=(cap:Int):=by omega
 have ar:(n:Int)<=(l.length:Int):=by omega
 have aA:(0:Int)<=(n:Int):=by omega
 have al:=κ ab;clear H ah ap an ag ao ab N;have ad: ∀G d,(G=if cap=n then I else I.map (·.add n))->d=cap-n-> ∃v',Ending.returned (δ I n n)= .returned v'/\SlI .u8 (w.setCell ⟨R,0,none⟩ (δ G (l.length-n) d)) v' (l.take n)/\qu (w.setCell ⟨R,0,none⟩ (δ G (l.length-n) d)) R (l.drop n) e C/\qg (λb=>b=R) w (w.setCell ⟨R,0,none⟩ (δ G (l.length-n) d)):=by
  intro G d aa aq;have J:qg (λb=>b=R) w (w.setCell ⟨R,0,none⟩ (δ G (l.length-n) d)):=(qg.refl (λb=>b=R) w).set (p:=⟨R,0,none⟩) rfl _;have Y: ∀b,b=R-> ∀o x,w.cell? ⟨b,o,none⟩≠some (υ x):=by rintro b rfl;exact ai.o
  subst aq;exact⟨_,rfl,((U.o.take3 n ac).away J Y),⟨⟨_,qB (qp ak.o 0 _) rfl,(U.o.from_ n ac _ aa).away J Y,λx g y=>af.o (λz=>x (by rw[z];simp)) g (by subst aa;exact Bx y)⟩,by simp;omega,aj.drop n,λx=>by rw[al.o x];simp⟩,J⟩
 have M:=κ ad;clear ad
 go_enter func97,ntmps97
 go_wp2
 all_goals (go_ret;first | exact M.o _ _ rfl rfl | exact M.o _ _ (by rw[if_pos τ]) τ | exact M.o _ _ (by rw[if_neg τ]) rfl)
theorem kV {w:World} {R:Nat} {l:List Int} {e:Int} (n:Int) {C:Nat->Prop} (h:qu w R l e C):
  Calls prog 97 #[γ R,ι n] w λH w'=> ∃v',H= .returned v'/\SlI .u8 w' v' (tkB l n)/\qu w' R (tkL l n) (tkE l n e) C/\qg (λb=>b=R) w w':=by
 by_cases h0:n<=0
 ·refine(Wg n h0 h).mono ?_;rintro H w' ⟨rfl,rfl⟩;have N:n.toNat=0:=by omega
  have d:tkB l n=[]:=by unfold tkB;rw[N];split<;>simp
  have J:tkE l n e=e:=by unfold tkE;rw[if_neg τ]
  have G:tkL l n=l:=by unfold tkL;rw[N];simp
  rw[d,J,G];exact⟨_,rfl,SlI.nil _ _,h,qg.refl _ _⟩
 ·by_cases h1:(l.length:Int)<n
  ·refine(Y9 n τ h1 h).mono ?_;rintro H w' ⟨rfl,M,I⟩;have d:tkB l n=[]:=by unfold tkB;rw[if_neg τ]
   have G:tkL l n=[]:=by unfold tkL;exact List.drop_eq_nil_of_le τ
   rw[d,G];exact⟨_,rfl,SlI.nil _ _,M,I⟩
  ·obtain⟨k,rfl⟩: ∃k:Nat,n=k:=⟨n.toNat,τ⟩;refine(KB k τ τ h).mono ?_;rintro H w' ⟨v',rfl,M,O,I⟩;have d:tkB l k=l.take k:=by unfold tkB;rw[if_pos τ];simp
   have G:tkL l k=l.drop k:=by unfold tkL;simp
   have J:tkE l k e=e:=by unfold tkE;rw[if_neg τ]
   rw[d,J,G];exact⟨_,rfl,M,O,I⟩
theorem jL {l:List Int} (h:Byt l) (n:Int):Byt (tkB l n):=by
 unfold tkB;split
 ·exact h.take _
 ·exact xh
theorem zh (l:List Int) (n:Int) (d:0<=n):((tkB l n).length:Int)<=n:=by
 unfold tkB;split
 ·rw[List.length_take];omega
 ·exact d
theorem zv (l:List Int) (k:Nat) (h:Byt l) (H:(l.length:Int)<=k) (G:k<=8):0<=num l/\num l<2 ^ (8* k):=by
 have d:=Yy l h;rw[uD l h τ];refine⟨d.1,Int.lt_of_lt_of_le d.2 ?_⟩;have:2 ^ (8* l.length)<=2 ^ (8* k):=Nat.pow_le_pow_right ζ τ
 exact_mod_cast this
theorem Zl {w:World} {R:Nat} {l:List Int} {e:Int} {C:Nat->Prop} (h:qu w R l e C) (n:Nat) (aa:n<=1):
  Calls prog 96 #[.func (.func 97) #[γ R] #[],ι n] w λN w'=>N= .returned (υ (num (tkB l n)))/\qu w' R (tkL l n) (tkE l n e) C/\qg (λb=>b=R) w w':=by
 have I:=jL h.byt n;have d:=zv (tkB l n) n I (zh l n τ) τ;have H:(2:Int) ^ (8* n)<=2 ^ (8* 1):=by
  have:2 ^ (8* n)<=2 ^ (8* 1):=Nat.pow_le_pow_right ζ τ
  exact_mod_cast this
 have G:IntKind.u8.wrap (num (tkB l n))=num (tkB l n):=Int.emod_eq_of_lt d.1 (Int.lt_of_lt_of_le d.2 H);have J:=κ G;clear G d H
 go_enter func96,ntmps96
 go_wp2_with first | (go_at_call 97;refine(kV n h).mono ?_;rintro ab w1 ⟨v1,rfl,M,U,O⟩) | (go_at_call 147;refine(gg _ v1 _ M I).mono ?_;rintro Y w2 ⟨rfl,rfl⟩)
 go_ret;exact⟨by first | exact xV J.o | rfl | exact congrArg _ (by rw[J.o]),U,O⟩
theorem Jp {w:World} {R:Nat} {l:List Int} {e:Int} {C:Nat->Prop} (h:qu w R l e C) (n:Nat) (aa:n<=2):
  Calls prog 98 #[.func (.func 97) #[γ R] #[],ι n] w λN w'=>N= .returned (φ (num (tkB l n)))/\qu w' R (tkL l n) (tkE l n e) C/\qg (λb=>b=R) w w':=by
 have I:=jL h.byt n;have d:=zv (tkB l n) n I (zh l n τ) τ;have H:(2:Int) ^ (8* n)<=2 ^ (8* 2):=by
  have:2 ^ (8* n)<=2 ^ (8* 2):=Nat.pow_le_pow_right ζ τ
  exact_mod_cast this
 have G:IntKind.u16.wrap (num (tkB l n))=num (tkB l n):=Int.emod_eq_of_lt d.1 (Int.lt_of_lt_of_le d.2 H);have J:=κ G;clear G d H
 go_enter func98,ntmps98
 go_wp2_with first | (go_at_call 97;refine(kV n h).mono ?_;rintro ab w1 ⟨v1,rfl,M,U,O⟩) | (go_at_call 147;refine(gg _ v1 _ M I).mono ?_;rintro Y w2 ⟨rfl,rfl⟩)
 go_ret;exact⟨by first | exact xV J.o | rfl | exact congrArg _ (by rw[J.o]),U,O⟩
theorem ub {w:World} {R:Nat} {l:List Int} {e:Int} {C:Nat->Prop} (h:qu w R l e C) (n:Nat) (aa:n<=4):
  Calls prog 99 #[.func (.func 97) #[γ R] #[],ι n] w λN w'=>N= .returned (ω (num (tkB l n)))/\qu w' R (tkL l n) (tkE l n e) C/\qg (λb=>b=R) w w':=by
 have I:=jL h.byt n;have d:=zv (tkB l n) n I (zh l n τ) τ;have H:(2:Int) ^ (8* n)<=2 ^ (8* 4):=by
  have:2 ^ (8* n)<=2 ^ (8* 4):=Nat.pow_le_pow_right ζ τ
  exact_mod_cast this
 have G:IntKind.u32.wrap (num (tkB l n))=num (tkB l n):=Int.emod_eq_of_lt d.1 (Int.lt_of_lt_of_le d.2 H);have J:=κ G;clear G d H
 go_enter func99,ntmps99
 go_wp2_with first | (go_at_call 97;refine(kV n h).mono ?_;rintro ab w1 ⟨v1,rfl,M,U,O⟩) | (go_at_call 147;refine(gg _ v1 _ M I).mono ?_;rintro Y w2 ⟨rfl,rfl⟩)
 go_ret;exact⟨by first | exact xV J.o | rfl | exact congrArg _ (by rw[J.o]),U,O⟩
theorem jT {w:World} {R:Nat} {l:List Int} {e:Int} {C:Nat->Prop} (h:qu w R l e C):
  Calls prog 54 #[γ R] w λd w'=>d= .returned (υ (num (tkB l 1)))/\qu w' R (tkL l 1) (tkE l 1 e) C/\qg (λb=>b=R) w w':=by
 go_enter func54,ntmps54
 go_wp2_with (go_at_call 96;refine(Zl h 1 ζ).mono ?_;rintro I w1 ⟨rfl,G,H⟩)
 go_ret;exact⟨rfl,G,H⟩
theorem xn {w:World} {R:Nat} {l:List Int} {e:Int} {C:Nat->Prop} (h:qu w R l e C):
  Calls prog 55 #[γ R] w λd w'=>d= .returned (φ (num (tkB l 2)))/\qu w' R (tkL l 2) (tkE l 2 e) C/\qg (λb=>b=R) w w':=by
 go_enter func55,ntmps55
 go_wp2_with (go_at_call 98;refine(Jp h 2 ζ).mono ?_;rintro I w1 ⟨rfl,G,H⟩)
 go_ret;exact⟨rfl,G,H⟩
theorem Je {w:World} {R:Nat} {l:List Int} {e:Int} {C:Nat->Prop} (h:qu w R l e C):
  Calls prog 267 #[γ R] w λd w'=>d= .returned (ω (num (tkB l 3)))/\qu w' R (tkL l 3) (tkE l 3 e) C/\qg (λb=>b=R) w w':=by
 go_enter func267,ntmps267
 go_wp2_with (go_at_call 99;refine(ub h 3 ζ).mono ?_;rintro I w1 ⟨rfl,G,H⟩)
 go_ret;exact⟨rfl,G,H⟩
theorem jD {w:World} {R:Nat} {l:List Int} {e:Int} {C:Nat->Prop} (h:qu w R l e C):
  Calls prog 56 #[γ R] w λd w'=>d= .returned (ω (num (tkB l 4)))/\qu w' R (tkL l 4) (tkE l 4 e) C/\qg (λb=>b=R) w w':=by
 go_enter func56,ntmps56
 go_wp2_with (go_at_call 99;refine(ub h 4 ζ).mono ?_;rintro I w1 ⟨rfl,G,H⟩)
 go_ret;exact⟨rfl,G,H⟩
theorem Vm (l:List Int) (n:Int):(tkB l n).length<=l.length:=by
 unfold tkB;split
 ·rw[List.length_take];omega
 ·simp
theorem kq {w:World} {base d e size n:Nat} {v:Value} {xs:List Value} (h:w.ownsRow base e size v n xs) (I:d<=base):w.ownsRow d e size v n xs:=by
 obtain⟨G,H⟩:=h;refine⟨G, ?_⟩;rcases H with h | ⟨b,cap,cur,e1,hb',rest⟩
 ·exact Or.inl h
 ·exact Or.inr ⟨b,cap,cur,e1,Nat.le_trans I hb',rest⟩
theorem QI {w:World} {R:Nat} {l:List Int} {e:Int} (n:Int) {C:Nat->Prop} (h:qu w R l e C):
  Calls prog 58 #[γ R,ι n] w λJ w'=> ∃v',J= .returned v'/\w'.ownsRow w.heap.size 5 1 v' (tkB l n).length ((tkB l n).map (Value.int .u8))/\qu w' R (tkL l n) (tkE l n e) C/\qg (λb=>b=R) w w':=by
 have U:=Vm l n;have O:=h.small
 go_enter func58,ntmps58
 go_wp2_with first | (go_at_call 97;refine(kV n h).mono ?_;rintro Y w1 ⟨v1,rfl,H,M,G⟩) | (go_at_call 46;refine(ws v1 _ _ H τ).mono ?_;rintro N w2 ⟨v2,rfl,I,d⟩)
 go_ret;exact⟨_,rfl,kq I G.size,M.more d,G.more d⟩
theorem yT {w:World} {R:Nat} {l:List Int} {e:Int} {C:Nat->Prop} (h:qu w R l e C):
  Calls prog 61 #[γ R] w λH w'=>H= .returned (ι (if ¬e=0 then e else if 0<l.length then 4 else 0))/\w'=w:=by
 obtain⟨⟨v,d,⟨M,cap,rfl,_⟩,_⟩,_,_,J⟩:=h;have I:=β0 d;have c1:=β1 d;clear d;by_cases he:e=0
 ·subst he;by_cases hl:0<l.length
  ·have G:(0:Int)<(l.length:Int):=by omega
   go_enter func61,ntmps61
   go_wp2;go_ret;simp[hl]
  ·have G: ¬(0:Int)<(l.length:Int):=by omega
   go_enter func61,ntmps61
   go_wp2;go_ret;simp[hl]
 ·have N:(e != 0)=true:=by simpa using he
  go_enter func61,ntmps61
  go_wp2;go_ret;simp[he]
end
end Go.Proofs.YtdgippmmaponfaaGreat
