/- Contracts of the functions that the law reaches, and plain laws; no conditions but those written at each. -/
import Derived.Test.YtlmllmonabafjaaGreatDoorMg8
import Derived.WalkMore
import Derived.ScopeJumps
namespace Go.Proofs.YtlmllmonabafjaaGreatDoor
open Go.Value renaming bool->μ,slice->δ,pointer->π,agg->θ
open Go.IntKind renaming i64->ι,u8->υ,u16->φ,u32->ω,i32->χ,u64->ψ
open _root_.Go.Proofs.Tryz
set_option linter.unusedSimpArgs false
set_option maxHeartbeats 8000000
set_option linter.unusedVariables false
open Go.RowKit
set_option maxRecDepth 100000
abbrev Og:=Int×Int
abbrev Sb:=Int×Bool×Int
structure TS where
 o:List (Int×Og)
 s:List (Og×Int)
 u:List (Int×Sb)
def kO (k:Og):Value:= .agg #[.int .i64 k.1,.int .i64 k.2]
def vS (x:Sb):Value:= .agg #[.int .u32 x.1,.bool x.2.1,.int .i64 x.2.2]
theorem PK (a b:Og) (w:World):(Op.equal 58 (kO a) (kO b)).run prog w= .ok (decide (a=b)) w:=by
 have J:prog.stoodInHeld 58=false:=by kernel_rfl
 obtain⟨d,G⟩:=a;obtain⟨H,I⟩:=b;unfold Op.equal kO;rw[show Op.maxDepth=9999+1 from rfl,run_equalIn_agg w 9999 58 _ _ ξ J];simp[go_sem];by_cases e1:d=H<;>by_cases e2:G=I<;>simp[e1,e2]
theorem Ga {P:Program} {d:TypeId} {q:IntKind} (G:P.underlying d=some (.int q)) (n:Nat) (H:0<n) (b:Bool) (x:Int) (w:World):(Instr.checkKey b n d (.int q x)).run P w= .ok () w:=by
 obtain⟨m,rfl⟩: ∃m,n=m+1:=⟨n-1,τ⟩;unfold Instr.checkKey;rw[Sem.run_bind,run_underlying G];rfl
theorem Yr:yz prog 58 kO:=
 yz.of_ask underlying58 (λa b=>by simp[Instr.sameNow]) PK (λb k w=>by
  rw[show (10000:Nat)=9999+1 from rfl];unfold Instr.checkKey kO
  simp[run_underlying underlying58,go_sem,Ga underlying3 9999 ζ]) (λk=>by simp[Instr.sameBits,kO])
theorem Aa:yz prog 38 (Value.int .u32):=Ab underlying38
theorem kE:yz prog 3 (Value.int .i64):=Ab underlying3
structure jq (w:World) (T a b c:Nat) (t:TS):Prop where
 blk:w.heap[T]? =some (.cells #[.map (some a),.map (some b),.map (some c)] 242 (0,0))
 mo:jk w a (Value.int .u32) kO t.o
 ms:jk w b kO (Value.int .u32) t.s
 mu:jk w c (Value.int .i64) vS t.u
 ab:a≠b
 ac:a≠c
 bc:b≠c
theorem KU {K V:Type} {w:World} {B b:Nat} {cs:Array Value} {t:TypeId} {ke:K->Value} {H:V->Value} {L:List (K×V)} (h:w.heap[B]? =some (.cells cs t (0,0))) (G:jk w b ke H L):B≠b:=by
 intro e;obtain⟨J,I,d,_⟩:=G.ex;rw[e,d] at h;cases h
theorem jq.more {w w':World} {T a b c:Nat} {t:TS} (h:jq w T a b c t) (m:qa w w'):jq w' T a b c t:=⟨qc m h.blk,h.mo.more m,h.ms.more m,h.mu.more m,h.ab,h.ac,h.bc⟩
theorem jq.away {w w':World} {T a b c:Nat} {t:TS} {S:Nat->Prop} (h:jq w T a b c t) (m:qg S w w') (d: ¬S T) (G: ¬S a) (H: ¬S b) (I: ¬S c):jq w' T a b c t:=⟨m.blk h.blk d,h.mo.away m G,h.ms.away m H,h.mu.away m I,h.ab,h.ac,h.bc⟩
theorem jq.putO {w w':World} {T a b c:Nat} {t:TS} (h:jq w T a b c t) (m:qg (λz=>z=a) w w') {o:List (Int×Og)} (d:jk w' a (Value.int .u32) kO o):jq w' T a b c {t with o:=o}:=
 ⟨m.blk h.blk (KU h.blk h.mo),d,h.ms.away m (λe=>h.ab e.symm),h.mu.away m (λe=>h.ac e.symm),h.ab,h.ac,h.bc⟩
theorem jq.putS {w w':World} {T a b c:Nat} {t:TS} (h:jq w T a b c t) (m:qg (λz=>z=b) w w') {s:List (Og×Int)} (d:jk w' b kO (Value.int .u32) s):jq w' T a b c {t with s:=s}:=
 ⟨m.blk h.blk (KU h.blk h.ms),h.mo.away m h.ab,d,h.mu.away m (λe=>h.bc e.symm),h.ab,h.ac,h.bc⟩
theorem jq.putU {w w':World} {T a b c:Nat} {t:TS} (h:jq w T a b c t) (m:qg (λz=>z=c) w w') {u:List (Int×Sb)} (d:jk w' c (Value.int .i64) vS u):jq w' T a b c {t with u:=u}:=
 ⟨m.blk h.blk (KU h.blk h.mu),h.mo.away m h.ac,h.ms.away m h.bc,d,h.ab,h.ac,h.bc⟩
theorem Aq (w:World):(zeroValue 58).run prog w= .ok (θ #[ι 0,ι 0]) w:=by kernel_rfl
theorem Ap (w:World):(zeroValue 38).run prog w= .ok (ω 0) w:=by kernel_rfl
theorem Vi (w:World):(zeroValue 298).run prog w= .ok (θ #[ω 0,false,ι 0]) w:=by kernel_rfl
theorem jq.lookO {w:World} {T a b c:Nat} {t:TS} (h:jq w T a b c t) (s:Int):
  (Instr.lookup 239 (.map (some a)) (ω s) true).run prog w= .ok (.tuple #[θ #[ι ((qh t.o s).getD (0,0)).1,ι ((qh t.o s).getD (0,0)).2],μ (qh t.o s).isSome]) w:=by
 rw[h.mo.look Aa underlying239 (Aq w) s true];cases qh t.o s<;>rfl
theorem jq.lookS {w:World} {T a b c:Nat} {t:TS} (h:jq w T a b c t) (k:Og):
  (Instr.lookup 47 (.map (some b)) (θ #[ι k.1,ι k.2]) true).run prog w= .ok (.tuple #[ω ((qh t.s k).getD 0),μ (qh t.s k).isSome]) w:=by
 have:=h.ms.look Yr underlying47 (Ap w) k true;unfold kO at this;rw[this];cases qh t.s k<;>rfl
def sb0:Sb:=(0,false,0)
theorem jq.lookU {w:World} {T a b c:Nat} {t:TS} (h:jq w T a b c t) (x:Int):
  (Instr.lookup 240 (.map (some c)) (ι x) true).run prog w= .ok (.tuple #[θ #[ω ((qh t.u x).getD sb0).1,μ ((qh t.u x).getD sb0).2.1,ι ((qh t.u x).getD sb0).2.2],μ (qh t.u x).isSome]) w:=by
 rw[h.mu.look kE underlying240 (Vi w) x true];cases qh t.u x<;>rfl
theorem jq.lookU1 {w:World} {T a b c:Nat} {t:TS} (h:jq w T a b c t) (x:Int):
  (Instr.lookup 240 (.map (some c)) (ι x) false).run prog w= .ok (θ #[ω ((qh t.u x).getD sb0).1,μ ((qh t.u x).getD sb0).2.1,ι ((qh t.u x).getD sb0).2.2]) w:=by
 rw[h.mu.look kE underlying240 (Vi w) x false];cases qh t.u x<;>rfl
theorem Mv (w:World):Calls prog 44 #[] w λe w'=> ∃T a b c,e= .returned (γ T)/\w.heap.size<=T/\w.heap.size<=a/\w.heap.size<=b/\w.heap.size<=c/\jq w' T a b c ⟨[],[],[]⟩/\qa w w':=by
 go_enter func44,ntmps44
 have d:= @run_makeMap prog;go_wp2;go_ret;refine⟨w.heap.size+3,w.heap.size,w.heap.size+1,w.heap.size+2,η,τ,τ,τ,τ,⟨qC η,(jk.made w _ _).more (((qa.alloc _ _).al _).al _), ?_, ?_,τ,τ,τ⟩,(((qa.alloc _ _).al _).al _).al _⟩
 ·have:=(jk.made (w.alloc (.map #[] 0)) kO (Value.int .u32)).more ((qa.alloc _ (.map #[] 0)).al (.cells #[.map (some w.heap.size),.map (some (w.heap.size+1)),.map (some (w.heap.size+2))] 242))
  simpa using this
 ·have:=(jk.made ((w.alloc (.map #[] 0)).alloc (.map #[] 0)) (Value.int .i64) vS).more (qa.alloc _ (.cells #[.map (some w.heap.size),.map (some (w.heap.size+1)),.map (some (w.heap.size+2))] 242))
  simpa using this
theorem Le {w:World} {T a b c:Nat} {t:TS} (h:jq w T a b c t) (s:Int):
  Calls prog 131 #[γ T,ω s] w λe w'=>e= .returned (.tuple #[θ #[ι ((qh t.o s).getD (0,0)).1,ι ((qh t.o s).getD (0,0)).2],μ (qh t.o s).isSome])/\qa w w':=by
 have d:=h.more (qa.alloc w (.cells #[ι 0,ι 0] 58));have G:=β0 d.blk;have q:=d.lookO s;clear d h;generalize (qh t.o s).getD (0,0)=x at *
 go_enter func131,ntmps131
 go_wp2
 (refine bodyPost_ret (v:= .tuple #[θ #[ι x.1,ι x.2],μ (qh t.o s).isSome]) ?rr1 rfl ?_;(case rr1=>(simp[results,results131,go_sem])))
 exact⟨rfl,(qa.alloc _ _).al _⟩
theorem CC {w:World} {T a b c:Nat} {t:TS} (h:jq w T a b c t) (k:Og):
  Calls prog 143 #[γ T,θ #[ι k.1,ι k.2]] w λe w'=>e= .returned (.tuple #[ω ((qh t.s k).getD 0),μ (qh t.s k).isSome])/\qa w w':=by
 have d:=h.more (qa.alloc w (.cells #[ι k.1,ι k.2] 58));have H:=β1 d.blk;have q:=λn=>(d.more (qa.drewN _ n)).lookS k
 clear d h
 go_enter func143,ntmps143
 go_wp2;refine wp_region_quiet_lit ξ ξ ?_
 repeat (go_big_quiet_step (fail))
 refine wpQuiet_nil ?_;intro _ G;obtain⟨nq,rfl⟩:=G;go_wp2
 go_ret2
 exact⟨rfl,(qa.alloc _ _).dr _⟩
theorem LH {w:World} {T a b c:Nat} {t:TS} (h:jq w T a b c t) (x:Int):
  Calls prog 90 #[γ T,ι x] w λe w'=>e= .returned (.tuple #[ι ((qh t.u x).getD sb0).2.2,μ ((qh t.u x).getD sb0).2.1])/\qa w w':=by
 have G:=β2 h.blk;have q:=h.lookU1 x;clear h;generalize (qh t.u x).getD sb0=y at *
 go_enter func90,ntmps90
 go_wp2;refine wp_region_quiet_lit ξ ξ ?_
 repeat (go_big_quiet_step (fail))
 refine wpQuiet_nil ?_;intro _ d;obtain⟨nq,rfl⟩:=d;go_wp2
 go_ret2
 exact⟨rfl,(qa.alloc _ _).dr _⟩
theorem yC {w:World} {T a b c:Nat} {t:TS} (h:jq w T a b c t) (p:Int):
  Calls prog 165 #[γ T,ι p] w λe w'=>e= .returned (μ (qh t.s (p,0)).isSome)/\w=w':=by
 have d:=β1 h.blk;have q:=h.lookS (p,0);simp only at q;clear h
 go_enter func165,ntmps165
 go_wp2;go_ret;exact⟨rfl,rfl⟩
theorem vw (p:Int) (w:World) (h:0<=p/\p<3):Calls prog 163 #[ι p] w λe w'=>e= .returned (μ true)/\w=w':=by
 obtain⟨d,G⟩:=h
 go_enter func163,ntmps163
 go_wp2;go_ret;exact⟨qZ (by simp<;>omega),rfl⟩
theorem Z8 (p:Int) (w:World) (h: ¬(0<=p/\p<3)):Calls prog 163 #[ι p] w λe w'=>e= .returned (μ false)/\w=w':=by
 have d:p<0∨(0<=p/\3<=p):=by omega
 clear h;rcases d with h1 | ⟨h1,h2⟩
 ·go_enter func163,ntmps163
  go_wp2;go_ret;exact⟨qZ η,rfl⟩
 ·go_enter func163,ntmps163
  go_wp2;go_ret;exact⟨qZ (by simp<;>omega),rfl⟩
theorem xe (p:Int) (w:World) (h:0<=p/\p<6):Calls prog 145 #[ι p] w λe w'=>e= .returned (μ true)/\w=w':=by
 obtain⟨d,G⟩:=h
 go_enter func145,ntmps145
 go_wp2;go_ret;exact⟨qZ (by simp<;>omega),rfl⟩
theorem wl (p:Int) (w:World) (h: ¬(0<=p/\p<6)):Calls prog 145 #[ι p] w λe w'=>e= .returned (μ false)/\w=w':=by
 have d:p<0∨(0<=p/\6<=p):=by omega
 clear h;rcases d with h1 | ⟨h1,h2⟩
 ·go_enter func145,ntmps145
  go_wp2;go_ret;exact⟨qZ η,rfl⟩
 ·go_enter func145,ntmps145
  go_wp2;go_ret;exact⟨qZ (by simp<;>omega),rfl⟩
def yI (t:TS) (x own:Int):TS×Int:=if 0<=x/\x<6 then (if (qh t.u x).isSome then (t,6) else ({t with u:=qx t.u x (own,false,0)},0)) else (t,1)
def zW (t:TS) (x:Int):TS×Int:=if 0<=x/\x<6 then (if (qh t.u x).isSome then ({t with u:=yK t.u x},0) else (t,5)) else (t,1)
def vL (t:TS) (x p:Int):TS×Int:=if (0<=x/\x<6)/\(0<=p/\p<3) then (if (qh t.u x).isSome/\(qh t.s (p,0)).isSome then (if ((qh t.u x).getD sb0).2.1 then (t,6) else ({t with u:=qx t.u x (((qh t.u x).getD sb0).1,true,p)},0)) else (t,5)) else (t,1)
def zM (t:TS) (x:Int):TS×Int:=if 0<=x/\x<6 then (if (qh t.u x).isSome/\((qh t.u x).getD sb0).2.1 then ({t with u:=qx t.u x (((qh t.u x).getD sb0).1,false,0)},0) else (t,5)) else (t,1)
theorem jB {P:Program} {f:FuncId} {args:Array Value} {w:World} {T a b c:Nat} {r:TS×Int} {t':TS} {v:Int} (hr:r=(t',v)) (h:Calls P f args w λe w'=>e= .returned (ι v)/\jq w' T a b c t'/\qg (λz=>z=c) w w'):
  Calls P f args w λe w'=>e= .returned (ι r.2)/\jq w' T a b c r.1/\qg (λz=>z=c) w w':=by
 subst hr;exact h
theorem Ld {w:World} {T a b c:Nat} {t:TS} (h:jq w T a b c t) (x own:Int):
  Calls prog 87 #[γ T,ι x,ω own] w λe w'=>e= .returned (ι (yI t x own).2)/\jq w' T a b c (yI t x own).1/\qg (λz=>z=c) w w':=by
 have c2:=β2 h.blk;have q:=h.lookU x;have HT:=κ h;by_cases hx:0<=x/\x<6
 ·have HX:=κ hx;obtain⟨y,hy⟩:=ν ((qh t.u x).getD sb0);rw[hy] at q;clear hy;cases hs:(qh t.u x).isSome with
  | true=>
   refine jB (t':=t) (v:=6) (by unfold yI;rw[if_pos hx,if_pos hs]) ?_;rw[hs] at q;clear hx hs h
   go_enter func87,ntmps87
   go_wp2_with (go_at_call 145;(go_call xe x _ HX.o as e w2 ⟨rfl,rfl⟩))
   go_ret;exact⟨rfl,HT.o.more (qa.alloc _ _),qg.of_more (qa.alloc _ _)⟩
  | false=>
   refine jB (t':={t with u:=qx t.u x (own,false,0)}) (v:=0) (by unfold yI;rw[if_pos hx,hs];rfl) ?_;rw[hs] at q;clear hx hs h;have c3:=β2 (qs HT.o.blk (.cells #[ω y.1,y.2.1,ι y.2.2] 298));obtain⟨w9,hr,hm,ha,_⟩:=(HT.o.mu.more (qa.alloc w (.cells #[ω y.1,y.2.1,ι y.2.2] 298))).update kE underlying240 x (own,false,0);unfold vS at hr;simp only at hr;have HM:=κ hm;have HA:=κ ha;clear hm ha
   go_enter func87,ntmps87
   go_wp2_with (go_at_call 145;(go_call xe x _ HX.o as e w2 ⟨rfl,rfl⟩))
   go_ret;exact⟨rfl,(HT.o.more (qa.alloc w _)).putU HA.o HM.o,(qg.of_more (qa.alloc _ _)).trans HA.o⟩
 ·have HX:=κ hx;refine jB (t':=t) (v:=1) (by unfold yI;rw[if_neg hx]) ?_;clear hx q
  go_enter func87,ntmps87
  go_wp2_with (go_at_call 145;(go_call wl x _ HX.o as e w2 ⟨rfl,rfl⟩))
  go_ret;exact⟨rfl,HT.o,qg.refl _ _⟩
theorem FC {w:World} {T a b c:Nat} {t:TS} (h:jq w T a b c t) (x:Int):
  Calls prog 106 #[γ T,ι x] w λe w'=>e= .returned (ι (zW t x).2)/\jq w' T a b c (zW t x).1/\qg (λz=>z=c) w w':=by
 have c2:=β2 h.blk;have q:=h.lookU x;have HT:=κ h;by_cases hx:0<=x/\x<6
 ·have HX:=κ hx;obtain⟨y,hy⟩:=ν ((qh t.u x).getD sb0);rw[hy] at q;clear hy;cases hs:(qh t.u x).isSome with
  | false=>
   refine jB (t':=t) (v:=5) (by unfold zW;rw[if_pos hx,hs];rfl) ?_;rw[hs] at q;clear hx hs h
   go_enter func106,ntmps106
   go_wp2_with (go_at_call 145;(go_call xe x _ HX.o as e w2 ⟨rfl,rfl⟩))
   go_ret;exact⟨rfl,HT.o.more (qa.alloc _ _),qg.of_more (qa.alloc _ _)⟩
  | true=>
   refine jB (t':={t with u:=yK t.u x}) (v:=0) (by unfold zW;rw[if_pos hx,if_pos hs]) ?_;rw[hs] at q;clear hx hs h;have c3:=β2 (qs HT.o.blk (.cells #[ω y.1,y.2.1,ι y.2.2] 298));obtain⟨w9,hr,hm,ha,_⟩:=(HT.o.mu.more (qa.alloc w (.cells #[ω y.1,y.2.1,ι y.2.2] 298))).drop kE underlying240 x 0;have hr: ∀ty,(Builtin.delete_ #[240,3] ty #[.map (some c),ι x]).run prog (w.alloc (.cells #[ω y.1,y.2.1,ι y.2.2] 298))= .ok (.tuple #[]) w9:=λ_=>hr
   have HM:=κ hm;have HA:=κ ha;clear hm ha
   go_enter func106,ntmps106
   go_wp2_with (go_at_call 145;(go_call xe x _ HX.o as e w2 ⟨rfl,rfl⟩))
   go_ret;exact⟨rfl,(HT.o.more (qa.alloc w _)).putU HA.o HM.o,(qg.of_more (qa.alloc _ _)).trans HA.o⟩
 ·have HX:=κ hx;refine jB (t':=t) (v:=1) (by unfold zW;rw[if_neg hx]) ?_;clear hx q
  go_enter func106,ntmps106
  go_wp2_with (go_at_call 145;(go_call wl x _ HX.o as e w2 ⟨rfl,rfl⟩))
  go_ret;exact⟨rfl,HT.o,qg.refl _ _⟩
theorem Jf {w:World} {T a b c:Nat} {t:TS} (h:jq w T a b c t) (x p:Int):
  Calls prog 105 #[γ T,ι x,ι p] w λe w'=>e= .returned (ι (vL t x p).2)/\jq w' T a b c (vL t x p).1/\qg (λz=>z=c) w w':=by
 have c2:=β2 h.blk;have q:=h.lookU x;have HT:=κ h;by_cases hx:0<=x/\x<6
 ·have HX:=κ hx;by_cases hp:0<=p/\p<3
  ·have HP:=κ hp;obtain⟨y,hy⟩:=ν ((qh t.u x).getD sb0);cases hs:(qh t.u x).isSome with
   | false=>
    refine jB (t':=t) (v:=5) (by unfold vL;rw[if_pos ⟨hx,hp⟩,hs];rfl) ?_;rw[hs,hy] at q;clear hx hs h hp hy
    go_enter func105,ntmps105
    go_wp2_with first | (go_at_call 145;(go_call xe x _ HX.o as e w2 ⟨rfl,rfl⟩)) | (go_at_call 163;(go_call vw p _ HP.o as e w2 ⟨rfl,rfl⟩))
    go_ret;exact⟨rfl,HT.o.more (qa.alloc _ _),qg.of_more (qa.alloc _ _)⟩
   | true=>
    cases hps:(qh t.s (p,0)).isSome with
    | false=>
     refine jB (t':=t) (v:=5) (by unfold vL;rw[if_pos ⟨hx,hp⟩,hps];simp) ?_;have HPS:=κ hps;rw[hs,hy] at q;clear hx hs h hp hy hps
     go_enter func105,ntmps105
     go_wp2_with first | (go_at_call 145;(go_call xe x _ HX.o as e w2 ⟨rfl,rfl⟩)) | (go_at_call 163;(go_call vw p _ HP.o as e w2 ⟨rfl,rfl⟩)) | (go_at_call 165;(go_call yC (HT.o.more (qa.alloc w (.cells #[ω y.1,y.2.1,ι y.2.2] 298))) p as e w2 ⟨rfl,rfl⟩;rw[HPS.o]))
     go_ret;exact⟨rfl,HT.o.more (qa.alloc _ _),qg.of_more (qa.alloc _ _)⟩
    | true=>
     have HPS:=κ hps;cases hb:y.2.1 with
     | true=>
      refine jB (t':=t) (v:=6) (by unfold vL;rw[if_pos ⟨hx,hp⟩,if_pos ⟨hs,hps⟩,hy,hb];rfl) ?_;rw[hs,hy,hb] at q;clear hx hs h hp hy hps hb
      go_enter func105,ntmps105
      go_wp2_with first | (go_at_call 145;(go_call xe x _ HX.o as e w2 ⟨rfl,rfl⟩)) | (go_at_call 163;(go_call vw p _ HP.o as e w2 ⟨rfl,rfl⟩)) | (go_at_call 165;(go_call yC (HT.o.more (qa.alloc w (.cells #[ω y.1,true,ι y.2.2] 298))) p as e w2 ⟨rfl,rfl⟩;rw[HPS.o]))
      go_ret;exact⟨rfl,HT.o.more (qa.alloc _ _),qg.of_more (qa.alloc _ _)⟩
     | false=>
      refine jB (t':={t with u:=qx t.u x (y.1,true,p)}) (v:=0) (by unfold vL;rw[if_pos ⟨hx,hp⟩,if_pos ⟨hs,hps⟩,hy,hb];rfl) ?_;rw[hs,hy] at q;rw[hb] at q;clear hx hs h hp hy hps hb;have L0: ∀z:qt (w.alloc (.cells #[ω y.1,false,ι y.2.2] 298)),z.w'.cell? ⟨T,2,none⟩=some (.map (some c)):=λz=>qb (qc z.h (qs HT.o.blk _)) 2 rfl
      have L1: ∀z:qt (w.alloc (.cells #[ω y.1,false,ι y.2.2] 298)),z.w'.cell? ⟨w.heap.size,0,none⟩=some (ω y.1):=λz=>z.new 0 rfl
      obtain⟨w9,hr,hm,ha,_⟩:=((HT.o.mu.more (qa.alloc w (.cells #[ω y.1,false,ι y.2.2] 298))).more (qa.drewN _ 1)).update kE underlying240 x (y.1,true,p);unfold vS at hr;simp only at hr;have HM:=κ hm;have HA:=κ ha;clear hm ha
      go_enter func105,ntmps105
      go_wp2_with first | (go_at_call 145;(go_call xe x _ HX.o as e w2 ⟨rfl,rfl⟩)) | (go_at_call 163;(go_call vw p _ HP.o as e w2 ⟨rfl,rfl⟩)) | (go_at_call 165;(go_call yC (HT.o.more (qa.alloc w (.cells #[ω y.1,false,ι y.2.2] 298))) p as e w2 ⟨rfl,rfl⟩;rw[HPS.o]))
      refine Qn (w.alloc (.cells #[ω y.1,false,ι y.2.2] 298)) 9 10 [9] ?_
      refine Qq9 ?_
      (refine Qe ?_;intro K hK)
      refine hK _ _ ?_;clear hK K;refine qA ?_;go_wp2;go_ret;exact⟨rfl,((HT.o.more (qa.alloc w _)).more (qa.drewN _ 1)).putU HA.o HM.o,(qg.of_more ((qa.alloc _ _).dr 1)).trans HA.o⟩
  ·have HP:=κ hp;refine jB (t':=t) (v:=1) (by unfold vL;rw[if_neg (λh=>hp h.2)]) ?_;clear hx q hp
   go_enter func105,ntmps105
   go_wp2_with first | (go_at_call 145;(go_call xe x _ HX.o as e w2 ⟨rfl,rfl⟩)) | (go_at_call 163;(go_call Z8 p _ HP.o as e w2 ⟨rfl,rfl⟩))
   go_ret;exact⟨rfl,HT.o,qg.refl _ _⟩
 ·have HX:=κ hx;refine jB (t':=t) (v:=1) (by unfold vL;rw[if_neg (λh=>hx h.1)]) ?_;clear hx q
  go_enter func105,ntmps105
  go_wp2_with (go_at_call 145;(go_call wl x _ HX.o as e w2 ⟨rfl,rfl⟩))
  go_ret;exact⟨rfl,HT.o,qg.refl _ _⟩
theorem Zr {w:World} {T a b c:Nat} {t:TS} (h:jq w T a b c t) (x:Int):
  Calls prog 123 #[γ T,ι x] w λe w'=>e= .returned (ι (zM t x).2)/\jq w' T a b c (zM t x).1/\qg (λz=>z=c) w w':=by
 have c2:=β2 h.blk;have q:=h.lookU x;have HT:=κ h;by_cases hx:0<=x/\x<6
 ·have HX:=κ hx;obtain⟨y,hy⟩:=ν ((qh t.u x).getD sb0);cases hs:(qh t.u x).isSome with
  | false=>
   refine jB (t':=t) (v:=5) (by unfold zM;rw[if_pos hx,hs];rfl) ?_;rw[hs,hy] at q;clear hx hs h hy
   go_enter func123,ntmps123
   go_wp2_with (go_at_call 145;(go_call xe x _ HX.o as e w2 ⟨rfl,rfl⟩))
   go_ret;exact⟨rfl,HT.o.more (qa.alloc _ _),qg.of_more (qa.alloc _ _)⟩
  | true=>
   cases hb:y.2.1 with
   | false=>
    refine jB (t':=t) (v:=5) (by unfold zM;rw[if_pos hx,hy,hb];simp) ?_;rw[hs,hy,hb] at q;clear hx hs h hy hb
    go_enter func123,ntmps123
    go_wp2_with (go_at_call 145;(go_call xe x _ HX.o as e w2 ⟨rfl,rfl⟩))
    go_ret;exact⟨rfl,HT.o.more (qa.alloc _ _),qg.of_more (qa.alloc _ _)⟩
   | true=>
    refine jB (t':={t with u:=qx t.u x (y.1,false,0)}) (v:=0) (by unfold zM;rw[if_pos hx,hy,hb,hs];rfl) ?_;rw[hs,hy,hb] at q;clear hx hs h hy hb;have L0: ∀z:qt (w.alloc (.cells #[ω y.1,true,ι y.2.2] 298)),z.w'.cell? ⟨T,2,none⟩=some (.map (some c)):=λz=>qb (qc z.h (qs HT.o.blk _)) 2 rfl
    have L1: ∀z:qt (w.alloc (.cells #[ω y.1,true,ι y.2.2] 298)),z.w'.cell? ⟨w.heap.size,0,none⟩=some (ω y.1):=λz=>z.new 0 rfl
    obtain⟨w9,hr,hm,ha,_⟩:=((HT.o.mu.more (qa.alloc w (.cells #[ω y.1,true,ι y.2.2] 298))).more (qa.drewN _ 1)).update kE underlying240 x (y.1,false,0);unfold vS at hr;simp only at hr;have HM:=κ hm;have HA:=κ ha;clear hm ha
    go_enter func123,ntmps123
    go_wp2_with (go_at_call 145;(go_call xe x _ HX.o as e w2 ⟨rfl,rfl⟩))
    refine Qn (w.alloc (.cells #[ω y.1,true,ι y.2.2] 298)) 8 9 [8] ?_
    refine Qq8 ?_
    (refine Qe ?_;intro K hK)
    refine hK _ _ ?_;clear hK K;refine qA ?_;go_wp2;go_ret;exact⟨rfl,((HT.o.more (qa.alloc w _)).more (qa.drewN _ 1)).putU HA.o HM.o,(qg.of_more ((qa.alloc _ _).dr 1)).trans HA.o⟩
 ·have HX:=κ hx;refine jB (t':=t) (v:=1) (by unfold zM;rw[if_neg hx]) ?_;clear hx q
  go_enter func123,ntmps123
  go_wp2_with (go_at_call 145;(go_call wl x _ HX.o as e w2 ⟨rfl,rfl⟩))
  go_ret;exact⟨rfl,HT.o,qg.refl _ _⟩
abbrev qQ:=Int×Int×List Int×Unit
def yH:qL qQ:=zf 1 (yW .u8) (zf 1 (yW .u8) (zf 1 (RSl 1 (yW .u8)) Gp))
def xu:qQ:=(0,0,[],())
structure xk (c:qQ):Prop where
 n:0<=c.1/\c.1<=255
 t:0<=c.2.1/\c.2.1<=255
 byt:Byt c.2.2.1
theorem DH {n:Int} (h:0<=n/\n<=255):(Lit.int .u8 n).wf=true:=by
 simp[Lit.wf,IntKind.min,IntKind.max,IntKind.signed,IntKind.bits];omega
theorem IW {l:List Int} (h:Byt l): ∀n∈l,(Lit.int .u8 n).wf=true:=by
 intro n d;obtain⟨i,hi,rfl⟩:=List.mem_iff_getElem.1 d;have:=h i;rw[List.getD_eq_getElem?_getD,List.getElem?_eq_getElem hi,Option.getD_some] at this;exact DH this
theorem Co {w:World} {cs:List Value} {c:qQ} (h:yH w cs c) (N:cs.length=3): ∃vb,cs=[υ c.1,υ c.2.1,vb]/\SlI .u8 w vb c.2.2.1/\xk c:=by
 match cs,N with
 | [k0,k1,k2],_=>
  obtain⟨⟨d,I⟩,⟨G,J⟩,⟨vb,H,s2⟩,_⟩:=h;simp at d G H;subst d G H;exact⟨k2,rfl,s2.ints.1,⟨bounds_u8 I,bounds_u8 J,Byt.of_wf s2.ints.2⟩⟩
theorem VU {w:World} {vb:Value} {c:qQ} (s:SlI .u8 w vb c.2.2.1) (h:xk c):yH w [υ c.1,υ c.2.1,vb] c:=
 ⟨⟨rfl,DH h.n⟩,⟨rfl,DH h.t⟩,⟨vb,rfl,SlP.of_ints s (IW h.byt)⟩,rfl⟩
structure JE (w:World) (b off i:Nat) (c:qQ) (vb:Value):Prop where
 c0:w.cell? ⟨b,off+i* 3,none⟩=some (.int .u8 c.1)
 c1:w.cell? ⟨b,off+i* 3+1,none⟩=some (.int .u8 c.2.1)
 c2:w.cell? ⟨b,off+i* 3+2,none⟩=some vb
 sl:SlI .u8 w vb c.2.2.1
 ok:xk c
theorem JE.more {w w':World} {b G i:Nat} {t:qQ} {vb:Value} (h:JE w b G i t vb) (m:qa w w') (d:b<w.heap.size):JE w' b G i t vb:=by
 obtain⟨H,I,J,N,O⟩:=h;exact⟨by rw[m.cells b _ d];exact H,by rw[m.cells b _ d];exact I,by rw[m.cells b _ d];exact J,N.keep m,O⟩
theorem Ae {w:World} {v:Value} {l:List qQ} (h:SlP 3 yH w v l): ∃d cap,v= δ d l.length cap/\(l.length:Int)<=9223372036854775807/\ ∀i,i<l.length-> ∃b G vb,d=some ⟨b,G,none⟩/\b<w.heap.size/\JE w b G i (l.getD i xu) vb:=by
 obtain⟨d,cap,O,U,Y,_⟩:=h;refine⟨d,cap,O,U,λi hi=> ?_⟩;obtain⟨b,G,cs,e,aa,ac,H,ad⟩:=Y i hi;have e0:=H 0 τ;have I:=H 1 τ;have J:=H 2 τ;have N:l.getD i xu=l[i]:=by simp[hi]
 rw[N];obtain⟨vb,rfl,ae,ab⟩:=Co ad ac;simp at e0 I J;exact⟨b,G,vb,e,aa,e0,I,J,ae,ab⟩
def jx (c:qQ):Bool:=decide (c.1<=31/\c.2.2.1.length%4=0/\c.2.2.1.length<=196)
theorem xR {w:World} {vb:Value} (c:qQ) (N:SlI .u8 w vb c.2.2.1) (U:c.2.2.1.length<=1000000):
  Calls prog 260 #[θ #[υ c.1,υ c.2.1,vb]] w λe w'=>e= .returned (μ (jx c))/\qa w w':=by
 obtain⟨k,n,b,⟨⟩⟩:=c;simp only at *;obtain⟨O,J,rfl,_⟩:=N;have H:=qa.alloc w (.cells #[υ k,υ n,δ O b.length J] 291);by_cases h1:k<=31
 ·by_cases h2:b.length%4=0
  ·by_cases h3:b.length<=196
   ·have d:jx (k,n,b,())=true:=by unfold jx;simp[h1,h2,h3]
    have G:=κ d;clear d;have I:((b.length:Int)).tmod 4=0:=by rw[Int.tmod_eq_emod_of_nonneg τ];omega
    go_enter func260,ntmps260
    go_wp2
    all_goals (go_ret;exact⟨by rw[G.o];first | rfl | exact qZ (decide_eq_true τ) | exact qZ (decide_eq_false τ),H⟩)
   ·have d:jx (k,n,b,())=false:=by unfold jx;simp[h3]
    have G:=κ d;clear d;have I:((b.length:Int)).tmod 4=0:=by rw[Int.tmod_eq_emod_of_nonneg τ];omega
    go_enter func260,ntmps260
    go_wp2
    all_goals (go_ret;exact⟨by rw[G.o];first | rfl | exact qZ (decide_eq_true τ) | exact qZ (decide_eq_false τ),H⟩)
  ·have d:jx (k,n,b,())=false:=by unfold jx;simp[h2]
   have G:=κ d;clear d;have I: ¬((b.length:Int)).tmod 4=0:=by rw[Int.tmod_eq_emod_of_nonneg τ];omega
   go_enter func260,ntmps260
   go_wp2
   all_goals (go_ret;exact⟨by rw[G.o];first | rfl | exact qZ (decide_eq_true τ) | exact qZ (decide_eq_false τ),H⟩)
 ·have d:jx (k,n,b,())=false:=by unfold jx;simp[h1]
  have G:=κ d;clear d
  go_enter func260,ntmps260
  go_wp2
  all_goals (go_ret;exact⟨by rw[G.o];first | rfl | exact qZ (decide_eq_true τ) | exact qZ (decide_eq_false τ),H⟩)
theorem zS {w:World} {cs:Array Value} {t B:Nat} (d:B=w.heap.size): ∀j u,cs.toList[j]? =some u->(w.alloc (.cells cs t)).cell? ⟨B,j,none⟩=some u:=by
 intro j u h;subst d;exact qb (qj w _) j (by simpa using h)
theorem kv {α:Type} (l:List α) (j:Nat) (d:α) (h:j<l.length):l.take (j+1)=l.take j++[l.getD j d]:=by
 rw[List.take_add_one,List.getElem?_eq_getElem h];simp[h]
def chB (c:qQ):List Int:=qy (128+c.1) 1++(qy c.2.1 1++(qy ((c.2.2.1.length:Int)/4) 2++c.2.2.1))
def flC (l:List qQ):List Int:=l.flatMap chB
def szC (l:List qQ):Nat:=(l.map λc=>4+c.2.2.1.length).sum
theorem YJ (c:qQ):(chB c).length=4+c.2.2.1.length:=by
 unfold chB;simp[qK];omega
theorem YH (l:List qQ):(flC l).length=szC l:=by
 induction l with
 | nil=>rfl
 | cons c l ih=>
  have e:flC (c::l)=chB c++flC l:=rfl;have d:szC (c::l)=4+c.2.2.1.length+szC l:=by simp[szC]
  rw[e,d,List.length_append,YJ,ih]
theorem Ck (l:List qQ) (j:Nat) (h:j<l.length):flC (l.take (j+1))=flC (l.take j)++chB (l.getD j xu):=by
 unfold flC;rw[kv l j xu h,List.flatMap_append];simp
theorem JZ (l:List qQ) (j:Nat) (h:j<l.length):szC (l.take (j+1))=szC (l.take j)+(4+(l.getD j xu).2.2.1.length):=by
 unfold szC;rw[kv l j xu h,List.map_append,List.sum_append];simp
theorem DX (l:List qQ) (j:Nat):szC (l.take j)<=szC l:=by
 conv=>rhs;rw[<-List.take_append_drop j l]
 unfold szC;rw[List.map_append,List.sum_append];omega
def vW (l:List qQ):List Int×Int:=if l.all jx=false then ([],1) else if 200<szC l then ([],4) else (flC l,0)
theorem zO (c:qQ):jx c=true↔c.1<=31/\c.2.2.1.length%4=0/\c.2.2.1.length<=196:=by unfold jx;simp
theorem PA {l:List qQ} {i:Nat} (hi:i<l.length) (h:jx (l.getD i xu)=false):vW l=([],1):=by
 unfold vW;rw[if_pos];rw[List.all_eq_false];exact⟨l.getD i xu,by simp[hi],by rw[h];simp⟩
theorem PB {l:List qQ} (h: ∀i,i<l.length->jx (l.getD i xu)=true):l.all jx=true:=by
 rw[List.all_eq_true];intro c d;obtain⟨i,hi,rfl⟩:=List.mem_iff_getElem.1 d;have:=h i hi
 simpa [hi] using this
theorem Dy (v:Value) (l:List qQ) (w:World) (sl:SlP 3 yH w v l) (bm:l.length<=100000) (ac: ∀i,i<l.length->(l.getD i xu).2.2.1.length<=1000000):
  Calls prog 206 #[v] w λe w'=> ∃vx,e= .returned (.tuple #[vx,ι (vW l).2])/\SlI .u8 w' vx (vW l).1/\qa w w'/\ ∀b,vx.ownBlock=some b->w.heap.size<=b:=by
 obtain⟨bt,cap,rfl,bn,U⟩:=Ae sl;clear sl
 go_enter func206,ntmps206
 go_wp2
 go_loopw [4,12] (λs i wr=> ∃j:Nat,j<=l.length/\i= ι j/\s= ι (szC (l.take j):Nat)/\szC (l.take j)<=200* j/\(∀i,i<j->jx (l.getD i xu)=true)/\qa w wr) (λ_ i _=>l.length-(intOf i).toNat)
 case atStart=>exact⟨0,τ,rfl,rfl,by simp[szC],λi hi=>by omega,qa.refl _⟩
 case round=>
  obtain⟨j,G,rfl,rfl,aJ,O,d⟩:=hrel;by_cases hlt:j<l.length
  ·obtain⟨b,bc,vb,rfl,H,N⟩:=U j hlt;have bs:=κ N;obtain⟨aq,c1,c2,Y,aC⟩:=N.more d H;have aW:(j:Int)<(l.length:Int):=by omega
   have aE:=κ (Y.keep (qa.alloc wr (.cells #[υ (l.getD j xu).1,υ (l.getD j xu).2.1,vb] 291)));obtain⟨aN,ar,rfl,_⟩:=Y;have aa:=κ (JZ l j hlt);have au:=ac j hlt;have J:=κ (λh=>PA (l:=l) hlt h);have ae:=κ O
   have aQ:Hid (∀b,jx (l.getD j xu)=b->b=true->(l.getD j xu).2.2.1.length<=196/\ ∀i,i<j+1->jx (l.getD i xu)=true):=κ (λb e h=>by
    subst e;refine⟨((zO _).1 h).2.2,λi hi=> ?_⟩;by_cases e:i<j
    ·exact ae.o i e
    ·obtain rfl:i=j:=by omega
     exact h)
   clear U N O ac;generalize aV:l.getD j xu=c at *;clear aV;generalize szC (l.take j)=z at *;cases I:jx c with
   | true=>
    obtain⟨bi,aB⟩:=aQ.o true I rfl;have aP:=κ aB;clear aB
    go_wp2_with (go_at_call 260;refine(xR c aE.o au).mono ?_;rintro e w6 ⟨rfl,ad⟩;rw[I];have ah:=(d.al _).trans ad;have bu:=β2 (qc ad (qj wr _)))
    go_roundw
    case rel=>exact⟨j+1,τ,by go_num,by rw[aa.o];go_num,by rw[aa.o];omega,aP.o,ah⟩
    case measure=>simp[intOf];omega
   | false=>
    have G:=J.o I
    go_wp2_with (go_at_call 260;refine(xR c aE.o au).mono ?_;rintro e w6 ⟨rfl,ad⟩;rw[I];have ah:=(d.al _).trans ad)
    refine bodyPost_ret (v:= .tuple #[δ none 0 0,ι 1]) (by simp[results,results206,go_sem]) rfl ?_;exact⟨_,by rw[G],by rw[G];exact SlI.nil _ _,ah,λb H=>by cases H⟩
  ·obtain rfl:j=l.length:=by omega
   rw[List.take_length] at *;have ax:=PB O;by_cases h200:200<szC l
   ·have G:vW l=([],4):=by unfold vW;rw[if_neg (by rw[ax];simp),if_pos h200]
    have J:=κ G;have aR:(200:Int)<(szC l:Int):=by omega
    clear G U ac O;go_wp2;refine bodyPost_ret (v:= .tuple #[δ none 0 0,ι 4]) (by simp[results,results206,go_sem]) rfl ?_;exact⟨_,by rw[J.o],by rw[J.o];exact SlI.nil _ _,d,λb H=>by cases H⟩
   ·have G:vW l=(flC l,0):=by unfold vW;rw[if_neg (by rw[ax];simp),if_neg h200]
    have J:=κ G;have aR: ¬(200:Int)<(szC l:Int):=by omega
    have ae:=κ O;clear G ac O;go_wp2;have aT:=wR wr;have aS:=d.al (.cells #[δ none 0 0] 204);have aU:=d.size;generalize bj:wr.heap.size=W at *
    go_loopw [30] (λi wr=> ∃j:Nat,j<=l.length/\i= ι j/\(∃v,j5 wr W v (flC (l.take j)))/\qa w wr) (λi _=>l.length-(intOf i).toNat)
    case atStart=>exact⟨0,τ,rfl,⟨_,aT⟩,aS⟩
    case round=>
     obtain⟨j,G,rfl,⟨v,I⟩,d⟩:=hrel;by_cases hlt:j<l.length
     ·obtain⟨b,bc,vb,rfl,H,N⟩:=U j hlt;obtain⟨aq,c1,c2,Y,aC⟩:=N.more d H;have aW:(j:Int)<(l.length:Int):=by omega
      have aw:=Ck l j hlt;have aJ:(flC (l.take j)).length<=200:=by rw[YH];have:=DX l j;omega
      have aD:=(zO _).1 (ae.o j hlt);have am:=κ aw;have aa:=κ Y;have an:=κ N.sl;obtain⟨aN,ar,rfl,_⟩:=Y;clear U N aw;generalize l.getD j xu=c at *;obtain⟨k,n,q,⟨⟩⟩:=c;simp only at aq c1 c2 aD;generalize flC (l.take j)=acc at *;obtain⟨⟨aX,bl⟩,⟨aY,aZ⟩,bo⟩:=aC;obtain⟨bp,bq,br⟩:=aD;change 0<=k at aX;change 0<=n at aY;change n<=255 at aZ;change Hid (SlI .u8 wr _ q) at aa;change Hid (SlI .u8 w _ q) at an;change Hid (_=acc++chB (k,n,q,())) at am;have ay:0<=128+k/\128+k<=255:=by omega
      have az:0<=n/\n<=255:=by omega
      have aA:0<=(q.length:Int)/4/\(q.length:Int)/4<=65535:=by omega
      have aK:(acc++qy (128+k) 1).length<=1000000:=by rw[List.length_append,qK _ _ ζ];omega
      have aL:(acc++qy (128+k) 1++qy n 1).length<=1000000:=by rw[List.length_append,List.length_append,qK _ _ ζ,qK _ _ ζ];omega
      have aM:(acc++qy (128+k) 1++qy n 1++qy ((q.length:Int)/4) 2).length+q.length<=10000000:=by rw[List.length_append,List.length_append,List.length_append,qK _ _ ζ,qK _ _ ζ,qK _ _ ζ];omega
      have bk:((q.length:Int)).tdiv 4=(q.length:Int)/4:=Int.tdiv_eq_ediv_of_nonneg τ;have ag:=κ (And.intro aK (And.intro aL aM));have af:=κ (And.intro ay (And.intro az aA));clear aK aL aM ay az aA;have ao:=κ (WrK.new (.cells #[υ k,υ n,δ aN q.length ar] 291) I d aU);have av:acc++qy (128+k) 1++qy n 1++qy ((q.length:Int)/4) 2++q=acc++chB (k,n,q,()):=by unfold chB;simp only[List.append_assoc]
      have aO:=κ av;clear av
      go_wp2_with first | (go_at_call 93;((with_reducible refine(wk ao.o.wr (128+k) af.o.1 τ).mono ?_);rintro e w6 ⟨rfl,aF⟩;obtain⟨v6,ai⟩:=ao.o.wrote aF;have bf:=β1 ai.keep;clear aF)) | (go_at_call 93;((with_reducible refine(wk ai.wr n af.o.2.1 ag.o.1).mono ?_);rintro e bv ⟨rfl,aG⟩;obtain⟨v7,aj⟩:=ai.wrote aG;have bg:=β2 aj.keep;clear aG)) | (go_at_call 94;(go_call kU aj.wr ((q.length:Int)/4) af.o.2.2 ag.o.2.1 as e w8 ⟨rfl,aH⟩;obtain⟨v8,ab⟩:=aj.wrote aH;have bh:=β2 ab.keep;have be:=an.o.keep ab.more;clear aH)) | (go_at_call 96;(go_call uU ab.wr _ _ be ag.o.2.2 as e w9 ⟨rfl,aI⟩;obtain⟨v9,ap⟩:=ab.wrote aI;clear aI))
      go_roundw
      case rel=>exact⟨j+1,τ,by go_num,⟨v9,by rw[am.o,<-aO.o];exact ap.wr⟩,ap.more⟩
      case measure=>simp[intOf];omega
     ·obtain rfl:j=l.length:=by omega
      rw[List.take_length] at I;have aJ:(flC l).length<=200:=by rw[YH];omega
      clear U
      go_wp2_with (go_at_call 97;refine(wZ I τ).mono ?_;rintro e w6 ⟨v6,rfl,ak,ba⟩;have bd:=κ (SlI.of_owns ak τ);have bb:=κ (λ(b:Nat) (H:v6.ownBlock=some b)=>Nat.le_trans d.size (jG ak H));clear ak)
      refine bodyPost_ret (v:= .tuple #[v6,ι 0]) (by simp[results,results206,go_sem]) rfl ?_;exact⟨_,by rw[J.o],by rw[J.o];exact bd.o,d.trans ba,bb.o⟩
def xg (b:List Int):List Int×Bool:=
 if b=[] then ([],false) else
  let n:=b.getD (b.length-1) 0
  if n=0∨ ¬n%4=0∨(b.length:Int)<n then ([],false) else (b.take (b.length-n.toNat),true)
theorem Dn {w:World} {v:Value} {b:List Int} (Y:SlI .u8 w v b) (U:Byt b):
  Calls prog 303 #[v] w λe w'=>(∃v',e= .returned (.tuple #[v',μ (xg b).2])/\SlI .u8 w v' (xg b).1/\ ∀g,v'.ownBlock=some g->v.ownBlock=some g)/\w'=w:=by
 have H:=κ Y;obtain⟨ar,cap,rfl,ae,J,af,ag,N⟩:=Y;by_cases hn:b=[]
 ·subst hn;have G:xg []=([],false):=rfl;have d:=κ G;clear G H N
  go_enter func303,ntmps303
  go_wp2;refine bodyPost_ret (v:= .tuple #[δ none 0 0,false]) (by simp[results,results303,go_sem]) rfl ?_;exact⟨⟨_,rfl,SlI.nil _ _,λg h=>by cases h⟩,rfl⟩
 ·have aj:0<b.length:=List.length_pos_iff.2 hn;obtain⟨I,aa,rfl,ak,ah⟩:=J (b.length-1) τ;have ab:=U (b.length-1);have ai:((b.length:Int)-1)=((b.length-1:Nat):Int):=by omega
  have aq:((b.length:Int)-1).toNat=b.length-1:=by omega
  have O: ∀n,b.getD (b.length-1) 0=n->xg b=if n=0∨ ¬n%4=0∨(b.length:Int)<n then ([],false) else (b.take (b.length-n.toNat),true):=λn e=>by
   unfold xg;rw[if_neg hn];simp only[e]
  have d:=κ (O _ rfl);clear O J U N hn;generalize b.getD (b.length-1) 0=n at *;obtain⟨ac,al⟩:=ab;have ap:n.tmod 4=n%4:=Int.tmod_eq_emod_of_nonneg ac;have ad:n=0∨(¬n=0/\ ¬n%4=0)∨(¬n=0/\n%4=0/\(b.length:Int)<n)∨(¬n=0/\n%4=0/\ ¬(b.length:Int)<n):=by omega
  rcases ad with h | ⟨h,h'⟩ | ⟨h,h',h''⟩ | ⟨h,h',h''⟩
  ·have G:xg b=([],false):=by rw[d.o,if_pos (Or.inl h)]
   clear d;have d:=κ G;clear G;subst h
   go_enter func303,ntmps303
   go_wp2;refine bodyPost_ret (v:= .tuple #[δ none 0 0,false]) (by simp[results,results303,go_sem]) rfl ?_;exact⟨⟨δ none 0 0,by rw[d.o],by rw[d.o];exact SlI.nil _ _,λg h=>by cases h⟩,rfl⟩
  ·have G:xg b=([],false):=by rw[d.o,if_pos (Or.inr (Or.inl h'))]
   clear d;have d:=κ G;clear G
   go_enter func303,ntmps303
   go_wp2;refine bodyPost_ret (v:= .tuple #[δ none 0 0,false]) (by simp[results,results303,go_sem]) rfl ?_;exact⟨⟨δ none 0 0,by rw[d.o],by rw[d.o];exact SlI.nil _ _,λg h=>by cases h⟩,rfl⟩
  ·have G:xg b=([],false):=by rw[d.o,if_pos (Or.inr (Or.inr h''))]
   clear d;have d:=κ G;clear G
   go_enter func303,ntmps303
   go_wp2;refine bodyPost_ret (v:= .tuple #[δ none 0 0,false]) (by simp[results,results303,go_sem]) rfl ?_;exact⟨⟨δ none 0 0,by rw[d.o],by rw[d.o];exact SlI.nil _ _,λg h=>by cases h⟩,rfl⟩
  ·have G:xg b=(b.take (b.length-n.toNat),true):=by rw[d.o,if_neg τ]
   clear d;have d:=κ G;clear G;obtain⟨m,rfl⟩: ∃m:Nat,n=m:=⟨n.toNat,τ⟩;have am:(0:Int)<=(b.length:Int)-(m:Int):=by omega
   have an:(b.length:Int)-(m:Int)<=(cap:Int):=by omega
   have ao:((b.length:Int)-(m:Int)).toNat=b.length-m:=by omega
   go_enter func303,ntmps303
   go_wp2;refine bodyPost_ret (v:= .tuple #[δ (some ⟨I,aa,none⟩) (b.length-m) cap,true]) (by simp[results,results303,go_sem]) rfl ?_;exact⟨⟨δ (some ⟨I,aa,none⟩) (b.length-m) cap,by rw[d.o],by rw[d.o];exact H.o.take _ τ,λg h=>h⟩,rfl⟩
theorem Aj: ∀m:Fin 256,bits .and .u8 (m.val:Int) 31=(m.val:Int)%32/\bits .and .u8 (m.val:Int) 32=if (m.val:Int)%64<32 then 0 else 32:=of_decide_eq_true ξ
theorem Mr {n:Int} (h:0<=n/\n<=255):bits .and .u8 n 31=n%32:=by
 obtain⟨m,rfl⟩:=Int.eq_ofNat_of_zero_le h.1;exact(Aj ⟨m,τ⟩).1
theorem Mq {n:Int} (h:0<=n/\n<=255):(bits .and .u8 n 32 != 0)= !decide (n%64<32):=by
 obtain⟨m,rfl⟩:=Int.eq_ofNat_of_zero_le h.1;rw[(Aj ⟨m,τ⟩).2];simp only;by_cases e:(m:Int)%64<32
 ·rw[if_pos e];simp[e]
 ·rw[if_neg e];simp;omega
def ze (s:RdS):(Int×Int×Int)×RdS:=((num (tkB s.1 1),num (tkB (tkS s 1).1 1),num (tkB (tkS (tkS s 1) 1).1 2)),tkS (tkS (tkS s 1) 1) 2)
def ua (f:Int) (s:RdS):RdS:=if f<128∨191<f then wrS s 2 else s
def vG (f t n:Int) (s:RdS):qQ×RdS:=
 if f%64<32 then ((f%32,t,tkB s.1 (4* n),()),tkS s (4* n))
 else ((f%32,t,(xg (tkB s.1 (4* n))).1,()),if (xg (tkB s.1 (4* n))).2=false∨ ¬(tkS s (4* n)).1=[] then wrS (tkS s (4* n)) 2 else tkS s (4* n))
def qP (s:RdS):qQ×RdS:=
 vG (ze s).1.1 (ze s).1.2.1 (ze s).1.2.2 (ua (ze s).1.1 (ze s).2)
structure RdK (w0 w:World) (R:Nat) (l:List Int) (e:Int) (B:Nat) (o:Obj) (C:Nat->Prop):Prop where
 rd:qu w R l e C
 away:qg (λb=>b=R) w0 w
 keep:w.heap[B]? =some o
 ne: ¬B=R
theorem RdK.new {w:World} {R:Nat} {l:List Int} {e:Int} {C:Nat->Prop} (o:Obj) (h:qu w R l e C):RdK w (w.alloc o) R l e w.heap.size o C:=
 ⟨h.more (qa.alloc w o),qg.of_more (qa.alloc w o),qj w o,λe=>by obtain⟨v,d,_⟩:=h.blk;have:=qn d;omega⟩
theorem RdK.step {G w w':World} {R:Nat} {l l':List Int} {e d:Int} {B:Nat} {o:Obj} {C:Nat->Prop} (h:RdK G w R l e B o C) (r:qu w' R l' d C) (a:qg (λb=>b=R) w w'):RdK G w' R l' d B o C:=
 ⟨r,h.away.trans a,a.blk h.keep h.ne,h.ne⟩
theorem Uj {b:List Int} (h:Byt b):Byt (xg b).1:=by
 unfold xg;split
 ·exact xh
 ·simp only;split
  ·exact xh
  ·exact h.take _
theorem Wf {w:World} {R:Nat} {s:RdS} {C:Nat->Prop} (h:qu w R s.1 s.2 C):
  Calls prog 279 #[γ R] w λe w'=>(∃vb,e= .returned (θ #[υ (qP s).1.1,υ (qP s).1.2.1,vb])/\SlI .u8 w' vb (qP s).1.2.2.1/\xk (qP s).1/\ ∀g,vb.ownBlock=some g->w.heap.size<=g)/\qu w' R (qP s).2.1 (qP s).2.2 C/\qg (λb=>b=R) w w':=by
 have bR:R<w.heap.size:=by obtain⟨v,ai,_⟩:=h.blk;exact qn ai
 have ag:=RdK.new (.cells #[υ 0,υ 0,()] 291) h.old;have aS:=jL h.byt 1;have aY:=zh s.1 1 ζ;have ax:=zv _ 1 aS aY ζ;have aT:qP s=vG (ze s).1.1 (ze s).1.2.1 (ze s).1.2.2 (ua (ze s).1.1 (ze s).2):=rfl;have ae:=κ aT;clear aT;obtain⟨L,E⟩:=s;simp only at h ag;have aP:Byt (tkL L 1):=h.byt.drop _;have bC:Byt (tkL (tkL L 1) 1):=aP.drop _;have bc:=zv _ 1 (jL aP 1) (zh (tkL L 1) 1 ζ) ζ;have bd:=zv _ 2 (jL bC 2) (zh (tkL (tkL L 1) 1) 2 ζ) ζ;have aU:ze (L,E)=((num (tkB L 1),num (tkB (tkL L 1) 1),num (tkB (tkL (tkL L 1) 1) 2)),(tkL (tkL (tkL L 1) 1) 2,tkE (tkL (tkL L 1) 1) 2 (tkE (tkL L 1) 1 (tkE L 1 E)))):=rfl;rw[aU] at ae;simp only at ae ax;clear aU aS aY;generalize aZ:num (tkB L 1)=f at *;generalize ba:num (tkB (tkL L 1) 1)=t at *;generalize bb:num (tkB (tkL (tkL L 1) 1) 2)=n at *;generalize aR:tkL (tkL (tkL L 1) 1) 2=L3 at *;generalize aQ:tkE (tkL (tkL L 1) 1) 2 (tkE (tkL L 1) 1 (tkE L 1 E))=E3 at *;have aV:0<=f/\f<=255:=by have:=ax;simp at this;omega
 have bF:0<=t/\t<=255:=by have:=bc;simp at this;omega
 have bS:0<=n/\n<=65535:=by have:=bd;simp at this;omega
 have bQ:=Mr aV;have bB:=Mq aV;clear ax bc bd
 have bG:Hid (∀O vb q (G:RdS),RdK w O R G.1 G.2 w.heap.size (.cells #[υ 0,υ 0,()] 291) (λg=>C g/\g<w.heap.size)->qP (L,E)=((f%32,t,q,()),G)->SlI .u8 O vb q->Byt q->(∀g,vb.ownBlock=some g->w.heap.size+1<=g)->(∃vb',Ending.returned (θ #[υ (f%32),υ t,vb])= .returned (θ #[υ (qP (L,E)).1.1,υ (qP (L,E)).1.2.1,vb'])/\SlI .u8 (((O.setCell ⟨w.heap.size,0,none⟩ (υ (f%32))).setCell ⟨w.heap.size,1,none⟩ (υ t)).setCell ⟨w.heap.size,2,none⟩ vb) vb' (qP (L,E)).1.2.2.1/\xk (qP (L,E)).1/\ ∀g,vb'.ownBlock=some g->w.heap.size<=g)/\qu (((O.setCell ⟨w.heap.size,0,none⟩ (υ (f%32))).setCell ⟨w.heap.size,1,none⟩ (υ t)).setCell ⟨w.heap.size,2,none⟩ vb) R (qP (L,E)).2.1 (qP (L,E)).2.2 C/\qg (λb=>b=R) w (((O.setCell ⟨w.heap.size,0,none⟩ (υ (f%32))).setCell ⟨w.heap.size,1,none⟩ (υ t)).setCell ⟨w.heap.size,2,none⟩ vb)):=κ (by
  intro O vb q G X bA bJ ah aW;have U:qg (λb=>b=w.heap.size) O (((O.setCell ⟨w.heap.size,0,none⟩ (υ (f%32))).setCell ⟨w.heap.size,1,none⟩ (υ t)).setCell ⟨w.heap.size,2,none⟩ vb):=(((qg.refl (λb=>b=w.heap.size) O).set (p:=⟨w.heap.size,0,none⟩) rfl _).set (p:=⟨w.heap.size,1,none⟩) rfl _).set (p:=⟨w.heap.size,2,none⟩) rfl _;rw[bA];refine⟨⟨vb,rfl,bJ.off (λb aw e=>by have:=aW b aw;omega) U,⟨by simp only;omega,bF,ah⟩,λg h=>by have:=aW g h;omega⟩, ?_, ?_⟩
  ·exact(X.rd.off U (λe=>X.ne e.symm) (λg bD e=>by have:=bD.2;omega)).mono λg h=>h.1
  ·exact⟨U.os.trans X.away.os,U.tape.trans X.away.tape,U.output.trans X.away.output,Nat.le_trans X.away.size U.size,λk aX bE=>by rw[U.block k (Nat.lt_of_lt_of_le aX X.away.size) τ];exact X.away.block k aX bE⟩)
 obtain⟨⟨d,J⟩,av⟩: ∃S4,ua f (L3,E3)=S4:=⟨_,rfl⟩;rw[av] at ae;have ak:=κ av;clear av
 go_enter func279,ntmps279
 go_upto_region 2 with (first | (go_at_call 52;((with_reducible refine(jT ag.rd).mono ?_);rintro e w6 ⟨rfl,bj,aI⟩;have am:=ag.step bj aI;rw[aZ])) | (go_at_call 52;((with_reducible refine(jT am.rd).mono ?_);rintro e bV ⟨rfl,bk,aJ⟩;have an:=am.step bk aJ;rw[ba])) | (go_at_call 53;(go_call xn an.rd as e w8 ⟨rfl,bl,aK⟩;have ao:=an.step bl aK;rw[bb];rw[aR,aQ] at ao)))
 have af:=κ ao;clear ag am an ao bj bk bl aI aJ aK aZ ba bb aR aQ h;obtain⟨q,be⟩:=ν (decide (f<128∨191<f));have Y:=κ be;clear be
 go_cut [20] from 15 to 51 (λv H=>v= μ q/\w8=H)
 case first=>
  by_cases ai:f<128
  ·go_wp2;go_meet;exact⟨by rw[<-Y.o];simp[ai],rfl⟩
  ·by_cases h2:191<f
   ·go_wp2;go_meet;exact⟨by rw[<-Y.o];simp[h2],rfl⟩
   ·go_wp2;go_meet;exact⟨by rw[<-Y.o];simp[ai,h2],rfl⟩
 case rest=>
 obtain⟨rfl,rfl⟩:=hcut
 go_upto_if 20 with fail
 go_cut [] from 21 to 51 (λH=>RdK w H R d J w.heap.size (.cells #[υ 0,υ 0,()] 291) (λg=>C g/\g<w.heap.size))
 case first=>
  cases q
  ·have ad:Hid ((L3,E3)=(d,J)):=κ (by rw[<-ak.o];exact(if_neg (of_decide_eq_false Y.o)).symm);go_wp2;go_meet;have x:=af.o;rw[show L3=d from congrArg Prod.fst ad.o,show E3=J from congrArg Prod.snd ad.o] at x;exact x
  ·have ad:Hid (wrS (L3,E3) 2=(d,J)):=κ (by rw[<-ak.o];exact(if_pos (of_decide_eq_true Y.o)).symm)
   go_wp2_with ((go_at_call 55;(go_call zo (s:=(L3,E3)) af.o.rd 2 as e w9 ⟨rfl,bm,a9⟩;have N:=κ (af.o.step bm a9);clear bm a9)))
   go_meet;have x:=N.o;rw[ad.o] at x;exact x
 case rest=>
 have N:=κ hcut;clear hcut af ak Y
 go_upto_region 5 with ((go_at_call 56;(go_call QI (4* n) N.o.rd as e w10 ⟨v10,rfl,ay,bh,aH⟩;have aa:=κ (N.o.step bh aH);have aB:=κ (SlI.of_owns ay (by have:=Vm d (4* n);have:=N.o.rd.small;omega));have aL:Hid (∀g,v10.ownBlock=some g->w.heap.size+1<=g):=κ (λg h=>Nat.le_trans (Nat.lt_of_lt_of_le (qn N.o.keep) (Nat.le_refl _)) (jG ay h));have aq:=κ (jL N.o.rd.byt (4* n));obtain⟨bT,bL,rfl,_⟩:=id aB.o;clear ay bh aH)))
 obtain⟨p,aA⟩:=ν ((!decide (f%64<32)));rw[aA] at bB;have aF:=κ aA;clear aA N;generalize aO:tkB d (4* n)=B at *;have aD:=κ aO;clear aO
 go_upto_if 30 with fail
 go_cut [6] from 31 to 51 (λv H=> ∃(o:Option Addr) (c:Nat) (q:List Int) (G:RdS),v= δ o q.length c/\SlI .u8 H (δ o q.length c) q/\Byt q/\(∀g,(δ o q.length c).ownBlock=some g->w.heap.size+1<=g)/\RdK w H R G.1 G.2 w.heap.size (.cells #[υ 0,υ 0,()] 291) (λg=>C g/\g<w.heap.size)/\vG f t n (d,J)=((f%32,t,q,()),G))
 case first=>
  cases p
  ·go_wp2;go_meet;exact⟨_,_,_,(tkL d (4* n),tkE d (4* n) J),rfl,aB.o,aq.o,aL.o,aa.o,by unfold vG;rw[if_pos (by have:=aF.o;simpa using this),aD.o];rfl⟩
  ·have aE:Hid (vG f t n (d,J)=((f%32,t,(xg B).1,()),if (xg B).2=false∨ ¬tkL d (4* n)=[] then wrS (tkL d (4* n),tkE d (4* n) J) 2 else (tkL d (4* n),tkE d (4* n) J))):=κ (by unfold vG;rw[if_neg (by have:=aF.o;simpa using this),aD.o];rfl);have bu:=κ (Uj (b:=B) aq.o);obtain⟨bg,az⟩:=ν ((xg B).2);obtain⟨ab,au⟩:=ν (tkL d (4* n));obtain⟨aj,ar⟩:=ν (tkE d (4* n) J);obtain⟨z,bf⟩:=ν (decide (bg=false∨ ¬ab=[]));have al:=κ bf;have aG:=κ (Dn aB.o aq.o);rw[az] at aG;rw[au,ar] at aa;rw[az,au,ar] at aE;clear az au ar bf
   go_upto_region 7 with (go_at_call 303;(go_call aG.o as e bp ⟨⟨v11,rfl,bn,aM⟩,rfl⟩;have bv:=κ bn;have aC:=κ (λg h=>aL.o g (aM g h));obtain⟨bU,bM,rfl,_⟩:=bn;clear aM))
   go_cut [42] from 36 to 51 (λv H=>v= μ z/\bp=H)
   case first=>
    cases bg
    ·go_wp2;go_meet;exact⟨by rw[<-al.o];rfl,rfl⟩
    ·go_wp2_with (go_at_call 57;(go_call zn aa.o.rd as e bK ⟨rfl,rfl⟩))
     go_meet;exact⟨by rw[<-al.o];cases ab<;>simp,rfl⟩
   case rest=>
   obtain⟨rfl,rfl⟩:=hcut
   go_upto_if 42 with fail
   go_cut [] from 43 to 51 (λH=> ∃G:RdS,RdK w H R G.1 G.2 w.heap.size (.cells #[υ 0,υ 0,()] 291) (λg=>C g/\g<w.heap.size)/\(if z then wrS (ab,aj) 2 else (ab,aj))=G/\qg (λb=>b=R) bp H)
   case first=>
    cases z
    ·go_wp2;go_meet;exact⟨_,aa.o,rfl,qg.refl _ _⟩
    ·go_wp2_with ((go_at_call 55;(go_call zo (s:=(ab,aj)) aa.o.rd 2 as e bK ⟨rfl,bi,ap⟩;have bw:=κ (aa.o.step bi ap);have bq:=κ ap;clear bi ap)))
     go_meet;exact⟨_,bw.o,rfl,bq.o⟩
   case rest=>
   obtain⟨G,I,ac,a9⟩:=hcut;have N:=κ I;have bs:=κ ac;have br:=κ a9;clear I ac a9;go_wp2;go_meet;exact⟨_,_,_,G,rfl,bv.o.off (λb aw e=>by have:=aC.o b aw;omega) br.o,bu.o,aC.o,N.o,by rw[aE.o,<-bs.o,<-al.o];simp⟩
 case rest=>
 obtain⟨bH,bz,bI,G,rfl,bo,ah,aN,I,ac⟩:=hcut;have bx:=β0 I.keep;have c1:=β1 I.keep;have c2:=β2 I.keep;have bN:=qd I.keep 0;have bO:=qd I.keep 1;have bP:=qd I.keep 2;have bt:=κ (bG.o _ _ _ _ I (ae.o.trans ac) bo ah aN);clear I ac bo ah aN;go_wp2
 (refine bodyPost_ret (v:= θ #[υ (f%32),υ t,δ bH bI.length bz]) ?rr1 rfl ?_;(case rr1=>(simp[results,results279,go_sem,bx,c1,c2])))
 exact bt.o
def vd:Nat->List qQ->RdS->List qQ×RdS
 | 0,acc,s=>(acc,s)
 | n+1,acc,s=>if (qP s).2.1=[] then (acc++[(qP s).1],(qP s).2) else vd n (acc++[(qP s).1]) (qP s).2
def jI (b:List Int):List qQ×Int:=
 if 200<b.length then ([],4) else if (vd (b.length+1) [] (b,0)).2.2=0 then ((vd (b.length+1) [] (b,0)).1,0) else ([],(vd (b.length+1) [] (b,0)).2.2)
theorem vH (s:RdS) (x:Int):(wrS s x).1.length<=s.1.length:=by unfold wrS;split<;>simp
theorem uN (s:RdS) (n:Int):(tkS s n).1.length<=s.1.length:=by
 show (tkL s.1 n).length<=_;unfold tkL;simp
theorem ZC (s:RdS):(qP s).2.1.length<=s.1.length-1:=by
 have d:(ze s).2.1.length<=s.1.length-1:=by
  show (tkS (tkS (tkS s 1) 1) 2).1.length<=_;have d:=uN (tkS (tkS s 1) 1) 2;have G:=uN (tkS s 1) 1;have H:(tkS s 1).1.length=s.1.length-1:=by
   show (tkL s.1 1).length=_;unfold tkL;simp
  omega
 have G:(ua (ze s).1.1 (ze s).2).1.length<=(ze s).2.1.length:=by
  unfold ua;split
  ·exact vH _ _
  ·exact Nat.le_refl _
 have H: ∀f t n s,(vG f t n s).2.1.length<=s.1.length:=by
  intro f t n s;have:=uN s (4* n);unfold vG;split
  ·exact this
  ·simp only;split
   ·exact Nat.le_trans (vH _ _) this
   ·exact this
 exact Nat.le_trans (H _ _ _ _) (Nat.le_trans G d)
structure yG (w0 w:World) (R B0:Nat) (C:Nat->Prop) (b:List Int) (v:Value) (acc:List qQ) (s:RdS):Prop where
 rd:qu w R s.1 s.2 C
 row:je 3 yH (λk=>k=R) w B0 291 v acc
 more:qa w0 w
 len:acc.length+s.1.length<=b.length
 ans: ∃n,s.1.length<n/\vd n acc s=vd (b.length+1) [] (b,0)
 hR:w0.heap.size<=R
 RB:R<B0
 BW:B0<=w.heap.size
 CB: ∀g,C g->g<B0
theorem yG.body {I w w6 w8:World} {R G:Nat} {C:Nat->Prop} {b:List Int} {v v':Value} {acc:List qQ} {s:RdS} {o:Obj} (h:yG I w R G C b v acc s)
  (ab:qu w6 R (qP s).2.1 (qP s).2.2 C) (J:qg (λb=>b=R) w w6) (ac:je 3 yH (λk=>k=R) w8 G 291 v' (acc++[(qP s).1])) (d:(w6.alloc o).grownBy w8 v.ownBlock):
  qu w8 R (qP s).2.1 (qP s).2.2 C/\qa I w8/\G<=w8.heap.size:=by
 have H: ∀g,v.ownBlock=some g->G<=g:=λg e=>h.row.ge e
 have aa:qa I (w6.alloc o):=(Jv J h.more h.hR).al o;have N:qg (λk=>v.ownBlock=some k) (w6.alloc o) w8:=⟨d.os,d.tape,d.output,d.size,λk U Y=>d.block k U (λe=>Y e.symm)⟩;refine⟨(ab.more (qa.alloc w6 o)).off N (λe=> ?_) (λg O e=> ?_),qg.to_more aa N (λk e=> ?_),Nat.le_trans h.BW (Nat.le_trans J.size (Nat.le_trans (qa.alloc w6 o).size d.size))⟩
 ·have:=H R e;have:=h.RB;omega
 ·have:=H g e;have:=h.CB g O;omega
 ·have:=H k e;have:=h.RB;have:=h.hR;omega
theorem yG.next {H w w8:World} {R d:Nat} {C:Nat->Prop} {b:List Int} {v v':Value} {acc:List qQ} {s:RdS} (h:yG H w R d C b v acc s)
  (J:je 3 yH (λk=>k=R) w8 d 291 v' (acc++[(qP s).1])) (G:qu w8 R (qP s).2.1 (qP s).2.2 C/\qa H w8/\d<=w8.heap.size) (I: ¬(qP s).2.1=[]):
  yG H w8 R d C b v' (acc++[(qP s).1]) (qP s).2:=by
 have N:=ZC s;have O:=List.length_pos_iff.2 I;refine⟨G.1,J,G.2.1, ?_, ?_,h.hR,h.RB,G.2.2,h.CB⟩
 ·have:=h.len;simp;omega
 ·obtain⟨n,U,e⟩:=h.ans;cases n with
  | zero=>omega
  | succ n=>
   refine⟨n,τ, ?_⟩;rw[<-e,vd,if_neg I]
theorem yG.stop {I w:World} {R d:Nat} {C:Nat->Prop} {b:List Int} {v:Value} {acc:List qQ} {s:RdS} (h:yG I w R d C b v acc s) (G: ¬200<b.length) (H:(qP s).2.1=[]):
  jI b=if (qP s).2.2=0 then (acc++[(qP s).1],0) else ([],(qP s).2.2):=by
 obtain⟨n,J,e⟩:=h.ans;cases n with
 | zero=>omega
 | succ n=>
  rw[vd,if_pos H] at e;unfold jI;rw[if_neg G,<-e]
theorem Dv {w:World} {R:Nat} {e:Int} {C:Nat->Prop} (h:qu w R [] e C):
  Calls prog 59 #[γ R] w λd w'=>d= .returned (ι e)/\w'=w:=by
 refine(yT h).mono ?_;rintro d w' ⟨rfl,rfl⟩;refine⟨?_,rfl⟩;by_cases x:e=0
 ·rw[if_neg (by simp[x]),if_neg η,x]
 ·rw[if_pos x]
def QO:Value->Nat
 | .slice _ n _=>n
 | _=>0
theorem Kc {J w:World} {R G:Nat} {C:Nat->Prop} {b:List Int} {v vb:Value} {acc:List qQ} {s:RdS} (h:yG J w R G C b v acc s) (H: ∀g,vb.ownBlock=some g->w.heap.size<=g) (k:Nat) (I:vb.ownBlock=some k) (d:k=R∨v.ownBlock=some k):False:=by
 have N:=H k I;rcases d with rfl | d
 ·have:=h.RB;have:=h.BW;omega
 ·have:=h.row.lt d;omega
theorem AT {G w w6:World} {R d:Nat} {C:Nat->Prop} {b:List Int} {v:Value} {acc:List qQ} {s:RdS} {o:Obj} (h:yG G w R d C b v acc s) (a:qg (λb=>b=R) w w6) {k:Nat} (H:k=R):k<(w6.alloc o).heap.size:=by
 have:=h.RB;have:=h.BW;have:=a.size;have:=(qa.alloc w6 o).size;omega
theorem Ut {G w w6:World} {R d:Nat} {C:Nat->Prop} {b:List Int} {v:Value} {acc:List qQ} {s:RdS} {o:Obj} (h:yG G w R d C b v acc s) (a:qg (λb=>b=R) w w6):d<=(w6.alloc o).heap.size:=by
 have:=h.BW;have:=a.size;have:=(qa.alloc w6 o).size;omega
theorem Z6 (v:Value) (b:List Int) (w:World) (sl:SlI .u8 w v b) (J:Byt b) (bl:b.length<=1000000):
  Calls prog 240 #[v] w λe w'=> ∃vl,e= .returned (.tuple #[vl,ι (jI b).2])/\SlP 3 yH w' vl (jI b).1/\qa w w':=by
 obtain⟨bs,hi,bo,bp,bq⟩:=info_parts (P:=prog) (e:=291) (z:= θ #[υ 0,υ 0,()]) (size:=3) (bytes:=32) ξ;have bg:=κ sl;obtain⟨bt,bh,rfl,_⟩:=sl;by_cases h200:200<b.length
 ·have N:jI b=([],4):=by unfold jI;rw[if_pos h200]
  have aa:=κ N;have bk:(200:Int)<(b.length:Int):=by omega
  clear N
  go_enter func240,ntmps240
  go_wp2
  go_step3
  go_wp2;simp only[Exit.noGoto]
  (refine bodyPost_ret (v:= .tuple #[δ none 0 0,ι 4]) ?rr1 rfl ?_;(case rr1=>(simp[results,results240,go_sem])))
  exact⟨_,by rw[aa.o],by rw[aa.o];exact SlP.nil _ _ _,qa.refl _⟩
 ·have bk: ¬(200:Int)<(b.length:Int):=by omega
  have bu:b.length<=200:=by omega
  go_enter func240,ntmps240
  go_wp2;refine wp_scope_jumps 0 (λa' w'=> ∃R G C am ad ag acc s aI aZ ba u8 bb aJ aK aL aM aN aO aP aQ aR aS aT aU aV aW aX aY,a'={tmps:= #[δ bt b.length bh,aI,(),ι 0,γ R,δ am ad ag,aZ,ba,u8,bb,aJ,aK,aL,aM,aN,aO,aP,aQ,aR,aS,aT,aU,aV,aW,aX,aY],defers:=[]}/\yG w w' R G C b (δ am ad ag) acc s/\ad=acc.length) (λa' _=>300-QO (a'.tmps.getD 5 undef)) rfl ?ja ?jb
  case' jb=>
   rintro a' w' ⟨R,G,C,am,ad,ag,acc,s,aI,aZ,ba,u8,bb,aJ,aK,aL,aM,aN,aO,aP,aQ,aR,aS,aT,aU,aV,aW,aX,aY,rfl,aA,aC⟩;have d:=κ aA;have bf:=κ aC;clear aA aC
  case' ja=>
   go_wp2_with (go_at_call 51;(go_call km _ b w bg.o J bl as e w1 ⟨R,rfl,aw,ak,bn⟩))
   go_step3
   have d:Hid (yG w w1 R w1.heap.size (λg=>w.heap.size<=g/\g<w1.heap.size) b (δ none 0 0) [] (b,0)):=κ ⟨ak,je.nil _ _ _ _ _ _,bn,η,⟨b.length+1,η,rfl⟩,aw,by obtain⟨v,bi,_⟩:=ak.blk;exact qn bi,Nat.le_refl _,λg h=>h.2⟩;obtain⟨s,N⟩: ∃s:RdS,s=(b,0):=⟨_,rfl⟩;rw[<-N] at d;obtain⟨acc,ax⟩: ∃acc:List qQ,acc=[]:=⟨_,rfl⟩;rw[<-ax] at d;obtain⟨G,au⟩: ∃G,G=w1.heap.size:=⟨_,rfl⟩;obtain⟨C,av⟩: ∃C:Nat->Prop,C=λg=>w.heap.size<=g/\g<w1.heap.size:=⟨_,rfl⟩
   rw[<-av,<-au] at d;clear N ax au av ak aw
  all_goals
   obtain⟨m,aB⟩: ∃m:Bool,decide ((0:Int)<((qP s).2.1.length:Int))=m:=⟨_,rfl⟩;have U:=κ aB
   go_upto_if 19 with (first | (go_at_call 279;(go_call Wf d.o.rd as e w6 ⟨⟨vb,rfl,aH,aF,ar⟩,aG,ap⟩;have aa:=κ aH;have be:=κ aF;have bd:=κ ar;have bc:=κ aG;have O:=κ ap;obtain⟨aE,aq,rfl,_⟩:=aH;clear ar aG aF ap)) | (at_builtin;refine jN _ rfl (.tmp 12) (.tmp 15) 385 rfl G 291 bs (θ #[υ 0,υ 0,()]) 3 32 underlying385 hi bo bp bq rfl ζ _ acc rfl ((d.o.row.step O.o).on (qa.alloc w6 (.cells #[υ (qP s).1.1,υ (qP s).1.2.1,δ aE (qP s).1.2.2.1.length aq] 291))) w6.heap.size [υ (qP s).1.1,υ (qP s).1.2.1,δ aE (qP s).1.2.2.1.length aq] (qP s).1 rfl rfl (zS rfl) (by simp[Value.oneCell']) (λw' a'=>VU ((aa.o.keep (qa.alloc _ _)).off (λb J bj=>Kc d.o bd.o b J bj) a') be.o) (λb h=>AT d.o O.o h) ζ (by have:=d.o.len;omega) (Ut d.o O.o) ?_;intro v' w8 ac az J;have af:=κ ac;have H:=κ (d.o.body bc.o O.o ac az);obtain⟨an,al,ah,rfl,aD,br⟩:=ac.shape;have ae:=κ aD;clear ac az J aD br) | (go_at_call 57;(go_call zn H.o.1 as e w9 ⟨rfl,rfl⟩)))
   clear aB;cases m with
   | false=>
    have bm:((qP s).2.1.length:Int)=0:=by have:=of_decide_eq_false U.o;omega
    have aj:(qP s).2.1=[]:=List.eq_nil_of_length_eq_zero (by have:=of_decide_eq_false U.o;omega);have ab:=κ (d.o.stop h200 aj);have Y:=κ aj;clear aj;obtain⟨ai,ay⟩: ∃ai:Bool,((qP s).2.2 != 0)=ai:=⟨_,rfl⟩;have ao:=κ ay
    go_upto_if 23 with (go_at_call 59;(go_call Dv (R:=R) (e:=(qP s).2.2) (C:=C) (by (have:=H.o.1;rw[Y.o] at this;exact this)) as e w10 ⟨rfl,rfl⟩))
    clear ay;cases ai with
    | false=>
     have I:Hid ((qP s).2.2=0):=κ (by simpa using ao.o);go_wp2;simp only[Exit.jump]
     (refine bodyPost_ret (v:= .tuple #[δ an al ah,ι 0]) ?rr2 rfl ?_;(case rr2=>(simp[results,results240,go_sem])))
     exact⟨_,by rw[ab.o,if_pos I.o],by rw[ab.o,if_pos I.o];exact af.o.sl ζ,H.o.2.1⟩
    | true=>
     have I:Hid (¬(qP s).2.2=0):=κ (by simpa using ao.o);go_wp2;simp only[Exit.jump]
     (refine bodyPost_ret (v:= .tuple #[δ none 0 0,ι (qP s).2.2]) ?rr3 rfl ?_;(case rr3=>(simp[results,results240,go_sem])))
     exact⟨_,by rw[ab.o,if_neg I.o],by rw[ab.o,if_neg I.o];exact SlP.nil _ _ _,H.o.2.1⟩
   | true=>
    have bm:(0:Int)<((qP s).2.1.length:Int):=of_decide_eq_true U.o;have Y:Hid (¬(qP s).2.1=[]):=κ (λe=>by have:=of_decide_eq_true U.o;rw[e] at this;simp at this);go_wp2
    go_step3
    first
     | exact⟨rfl,R,G,C,an,al,ah,_,_,_,_,_,_,_,_,_,_,_,_,_,_,_,_,_,_,_,_,_,_,_,rfl,d.o.next af.o H.o Y.o,ae.o⟩
     | exact⟨rfl,⟨R,G,C,an,al,ah,_,_,_,_,_,_,_,_,_,_,_,_,_,_,_,_,_,_,_,_,_,_,_,rfl,d.o.next af.o H.o Y.o,ae.o⟩,by have:=ae.o;have:=d.o.len;have:=bf.o;simp[QO] at *;omega⟩
end Go.Proofs.YtlmllmonabafjaaGreatDoor
