/- Contracts of the functions that the law reaches, and plain laws; no conditions but those written at each. -/
import Derived.Test.YtdgippmmaponfaaGreatMg12
namespace Go.Proofs.YtdgippmmaponfaaGreat
open Go.Value renaming bool->μ,slice->δ,pointer->π,agg->θ
open Go.IntKind renaming i64->ι,u8->υ,u16->φ,u32->ω,i32->χ,u64->ψ
open _root_.Go.Proofs.Tryz
set_option linter.unusedSimpArgs false
set_option maxHeartbeats 8000000
set_option linter.unusedVariables false
open Go.RowKit Go.Lib
set_option maxRecDepth 100000
theorem If {w:World} {g e:Nat} {cur:Array Value} (h:w.heap[g]? =some (.cells cur e (0,0))) (cs:Array Value):(w.setRow g cs).heap[g]? =some (.cells cs e (0,0)):=setRow_heap w g cur cs e (0,0) h
theorem En (w:World) (g:Nat) (cs:Array Value):qg (λk=>k=g) w (w.setRow g cs):=by
 refine⟨rfl,rfl,rfl,by simp[World.setRow],λb G d=> ?_⟩;unfold World.setRow;simp only;rw[Array.getElem?_modify,if_neg (λe=>d e.symm)]
theorem zr {P:Program} {ops:Array Oper} {rest:List Oper} {o:Oper} {a:Act} {w:World} {Q:Exit->Act->World->Prop} (J:o.guard=none) (G:TypeId) (x y:Operand) (I:o.op= .store G x y)
  (g:Nat) (t:TypeId) (c d:Array Value) (M:w.heap[g]? =some (.cells c t (0,0))) (O:a.eval x= γ g) (N:a.eval y= θ d)
  (hi:(P.info? G).map (·.size)=some d.size) (U:c.size=d.size) (Y:d.all (·.oneCell')=true)
  (h:wpList P ops Q rest (a.put o.dst undef) (w.setRow g d)):wpList P ops Q (o::rest) a w:=by
 refine wpList_plain J λK H=> ?_
 unfold Oper.wp execOp;simp only[I,O,N,Instr.storeAt,Instr.sureAddr,Sem.run_bind,Sem.run_pure,Result.andThen_ok,run_storeVar_row w g t G c d M hi U Y];exact H _ _ h
theorem vR {P:Program} {H:Func} {p q:Tmp} {d:TypeId} (h:H.results= #[.cell p d,.tmp q]) (tmps:Array Value) (w:World) (g:Nat) (t:TypeId) (cs:Array Value) (G:TypeDesc) (v2:Value)
  (N:tmps.getD p undef= γ g) (I:tmps.getD q undef=v2) (O:w.heap[g]? =some (.cells cs t (0,0)))
  (Y:P.underlying d=some G) (M:(match G with | .struct _ | .array _ _=>true | _=>false)=true) (hi:(P.info? d).map (·.size)=some cs.size):
  (results H tmps).run P w= .ok (.tuple #[θ cs,v2]) w:=by
 have U:tmps[p]?.getD undef= γ g:=by simpa using N
 have J:tmps[q]?.getD undef=v2:=by simpa using I
 simp[results,h,U,J,asAddr,run_loadVar_row w g t d cs (0,0) G O Y M hi]
theorem DL {w:World} {B t:Nat} {cs:Array Value} (h:w.heap[B]? =some (.cells cs t (0,0))) (cs':Array Value): ∃W,w.setRow B cs'=W/\W.heap[B]? =some (.cells cs' t (0,0))/\qg (λb=>b=B) w W:=⟨_,rfl,If h cs',En _ _ _⟩
theorem XO (c:qQ) (M:Option Addr) (J:Nat) (w:World) (s:SlI .u8 w (δ M c.2.2.1.length J) c.2.2.1) (aa:xk c) (ar:c.2.2.1.length<=400) (U:c.2.1=200∨c.2.1=201):
  Calls prog 213 #[θ #[υ c.1,υ c.2.1,δ M c.2.2.1.length J]] w λe w'=>(∃vb va vl vo,e= .returned (.tuple #[θ #[ι (qv c).1.kind,μ (qv c).1.rep.snd,ω (qv c).1.rep.src,ω (qv c).1.rep.inf.sec,ω (qv c).1.rep.inf.frac,ω (qv c).1.rep.inf.stamp,ω (qv c).1.rep.inf.pkts,ω (qv c).1.rep.inf.octs,vb,ι (qv c).1.msg.kind,ω (qv c).1.msg.snd,ω (qv c).1.msg.med,va,vl,υ (qv c).1.oth.1,υ (qv c).1.oth.2.1,vo],ι (qv c).2])/\Gq w' vb va vl vo (qv c).1/\jX w vb/\jX w va/\jX w vl/\Ww w vo (δ M c.2.2.1.length J))/\qa w w':=by
 have S:=κ s;have ag:=κ aa;have am:c.2.2.1.length<=1000000:=by omega
 obtain⟨W0,N⟩:=ν ((w.alloc (.cells #[υ c.1,υ c.2.1,δ M c.2.2.1.length J] 254)).alloc (.cells Γf 256));have O:Hid (qa w W0):=κ (by rw[<-N];exact(qa.alloc _ _).al _);have ad:Hid (W0.heap[w.heap.size+1]? =some (.cells Γf 256 (0,0))):=κ (by rw[<-N];exact qC η);have I:=κ N;clear s aa N;have aj:Hid (qv c=(⟨1,(qG c).1,JI,Gj⟩,(qG c).2)):=κ (by unfold qv;rw[if_pos U]);rw[aj.o];have af:=κ (We (w:=W0) c (S.o.keep O.o) ag.o am);have H:(c.2.1==200)=true∨((c.2.1==200)=false/\(c.2.1==201)=true):=by
  rcases U with h | h
  ·exact Or.inl (by rw[h];rfl)
  ·exact Or.inr ⟨by rw[h];rfl,by rw[h];rfl⟩
 clear U;rcases H with b1 | ⟨b1,b2⟩
 all_goals
  go_enter func213,ntmps213
  go_wp2_with (first | (go_at_call 241;(go_call (I.o▸af.o) as e w1 ⟨⟨vb,rfl,s1,ab⟩,m⟩;have ai:=κ s1;have ah:=κ ab;obtain⟨G,d,rfl,_⟩:=s1;have ap:=κ (O.o.trans (I.o▸m));have ac:=κ (qs (qc (I.o▸m) ad.o) (.cells #[μ (qG c).1.snd,ω (qG c).1.src,ω (qG c).1.inf.sec,ω (qG c).1.inf.frac,ω (qG c).1.inf.stamp,ω (qG c).1.inf.pkts,ω (qG c).1.inf.octs,δ G (qG c).1.bl.length d] 252));clear m ab)) | (refine jU rfl 252 (.tmp 4) (.tmp 19) rfl w1 _ #[μ (qG c).1.snd,ω (qG c).1.src,ω (qG c).1.inf.sec,ω (qG c).1.inf.frac,ω (qG c).1.inf.stamp,ω (qG c).1.inf.pkts,ω (qG c).1.inf.octs,δ G (qG c).1.bl.length d] rfl rfl rfl ξ rfl rfl ?_) | (refine wpList_load_row rfl 252 (.tmp 4) rfl w1.heap.size rfl _ #[μ (qG c).1.snd,ω (qG c).1.src,ω (qG c).1.inf.sec,ω (qG c).1.inf.frac,ω (qG c).1.inf.stamp,ω (qG c).1.inf.pkts,ω (qG c).1.inf.octs,δ G (qG c).1.bl.length d] _ _ (heap_alloc_new w1 _) underlying252 rfl ξ ?_) | (refine zr rfl 256 (.tmp 2) (.tmp 22) rfl (w.heap.size+1) _ _ #[ι 1,μ (qG c).1.snd,ω (qG c).1.src,ω (qG c).1.inf.sec,ω (qG c).1.inf.frac,ω (qG c).1.inf.stamp,ω (qG c).1.inf.pkts,ω (qG c).1.inf.octs,δ G (qG c).1.bl.length d,ι 0,ω 0,ω 0,(),(),υ 0,υ 0,()] ac.o rfl rfl ξ rfl (all_oneCell_toArray (by simp[Value.oneCell'])) ?_))
  obtain⟨WF,an,ao,a3⟩:=DL ac.o #[ι 1,μ (qG c).1.snd,ω (qG c).1.src,ω (qG c).1.inf.sec,ω (qG c).1.inf.frac,ω (qG c).1.inf.stamp,ω (qG c).1.inf.pkts,ω (qG c).1.inf.octs,δ G (qG c).1.bl.length d,ι 0,ω 0,ω 0,(),(),υ 0,υ 0,()];rw[an];have aq:=qg.to_more (ap.o.al _) a3 (λb e=>by omega);have Y:jX W0 (δ G (qG c).1.bl.length d):=by rw[<-I.o];exact ah.o
  have ak:SlP 7 Yj WF (δ G (qG c).1.bl.length d) (qG c).1.bl:=Yv (ai.o.keep Ca (qa.alloc _ _)) (λb H (e:b=w.heap.size+1)=>by have:=Y b H;have:=qn ad.o;omega) a3;have ae:jX w (δ G (qG c).1.bl.length d):=λb H=>by have:=Y b H;have:=O.o.size;omega
  refine bodyPost_ret (v:= .tuple #[θ #[ι 1,μ (qG c).1.snd,ω (qG c).1.src,ω (qG c).1.inf.sec,ω (qG c).1.inf.frac,ω (qG c).1.inf.stamp,ω (qG c).1.inf.pkts,ω (qG c).1.inf.octs,δ G (qG c).1.bl.length d,ι 0,ω 0,ω 0,(),(),υ 0,υ 0,()],ι (qG c).2]) (vR results213 _ _ (w.heap.size+1) _ _ _ _ rfl rfl ao underlying256 rfl ξ) rfl ?_;exact⟨⟨_,_,_,_,rfl,⟨ak,⟨SlP.nil _ _ _,SlI.nil _ _⟩,SlI.nil _ _⟩,ae,jX.nil w,jX.nil w,Or.inl (jX.nil w)⟩,aq⟩
theorem Wh (c:qQ) (N:Option Addr) (M:Nat) (w:World) (s:SlI .u8 w (δ N c.2.2.1.length M) c.2.2.1) (aw:xk c) (ay:c.2.2.1.length<=400) (ab: ¬c.2.1=200) (ag: ¬c.2.1=201):
  Calls prog 213 #[θ #[υ c.1,υ c.2.1,δ N c.2.2.1.length M]] w λe w'=>(∃vb af aa vo,e= .returned (.tuple #[θ #[ι (qv c).1.kind,μ (qv c).1.rep.snd,ω (qv c).1.rep.src,ω (qv c).1.rep.inf.sec,ω (qv c).1.rep.inf.frac,ω (qv c).1.rep.inf.stamp,ω (qv c).1.rep.inf.pkts,ω (qv c).1.rep.inf.octs,vb,ι (qv c).1.msg.kind,ω (qv c).1.msg.snd,ω (qv c).1.msg.med,af,aa,υ (qv c).1.oth.1,υ (qv c).1.oth.2.1,vo],ι (qv c).2])/\Gq w' vb af aa vo (qv c).1/\jX w vb/\jX w af/\jX w aa/\Ww w vo (δ N c.2.2.1.length M))/\qa w w':=by
 have S:=κ s;have aB:=κ aw;have aF:c.2.2.1.length<=1000000:=by omega
 obtain⟨W0,ae⟩:=ν ((w.alloc (.cells #[υ c.1,υ c.2.1,δ N c.2.2.1.length M] 254)).alloc (.cells Γf 256));have Y:Hid (qa w W0):=κ (by rw[<-ae];exact(qa.alloc _ _).al _);have av:Hid (W0.heap[w.heap.size]? =some (.cells #[υ c.1,υ c.2.1,δ N c.2.2.1.length M] 254 (0,0))):=κ (by rw[<-ae];exact qs (qj w _) _);have ah:Hid (W0.heap[w.heap.size+1]? =some (.cells Γf 256 (0,0))):=κ (by rw[<-ae];exact qC η);have J:=κ ae;clear s aw ae;have aI:(c.2.1==200)=false:=beq_eq_false_iff_ne.2 ab;have aJ:(c.2.1==201)=false:=beq_eq_false_iff_ne.2 ag;have aq:=κ (Wd (w:=W0) c (S.o.keep Y.o) aB.o aF);by_cases h5:(qJ c).2=5
 ·have am:Hid (qv c=(⟨3,Qh,JI,c⟩,0)):=κ (by unfold qv;rw[if_neg (λe=>e.elim ab ag),if_pos h5]);rw[am.o];have aD:((qJ c).2==5)=true:=by rw[h5];rfl
  clear ab ag h5
  go_enter func213,ntmps213
  go_wp2_with (first | (go_at_call 242;(go_call (J.o▸aq.o) as e w1 ⟨⟨af,aa,rfl,s1,ac,n2⟩,m⟩;have ak:=κ s1;have ar:=κ ac;have ax:=κ n2;obtain⟨⟨G,d,rfl,_⟩,⟨H,I,rfl,_⟩⟩:=id s1;have ai:=κ (Y.o.trans (J.o▸m));have ad:=κ (qs (qc (J.o▸m) ah.o) (.cells #[ι (qJ c).1.kind,ω (qJ c).1.snd,ω (qJ c).1.med,δ G (qJ c).1.asks.length d,δ H (qJ c).1.lost.length I] 246));have U:=κ (qs (qc (J.o▸m) av.o) (.cells #[ι (qJ c).1.kind,ω (qJ c).1.snd,ω (qJ c).1.med,δ G (qJ c).1.asks.length d,δ H (qJ c).1.lost.length I] 246));have aH:=β0 U.o;have aG:=β1 U.o;have aA:=β2 U.o;clear m ac n2 s1)) | (refine jU rfl 246 (.tmp 6) (.tmp 27) rfl w1 _ #[ι (qJ c).1.kind,ω (qJ c).1.snd,ω (qJ c).1.med,δ G (qJ c).1.asks.length d,δ H (qJ c).1.lost.length I] rfl rfl rfl ξ rfl rfl ?_) | (refine zr rfl 256 (.tmp 2) (.tmp 32) rfl (w.heap.size+1) _ _ #[ι 3,false,ω 0,ω 0,ω 0,ω 0,ω 0,ω 0,(),ι 0,ω 0,ω 0,(),(),υ c.1,υ c.2.1,δ N c.2.2.1.length M] ad.o rfl rfl ξ rfl (all_oneCell_toArray (by simp[Value.oneCell'])) ?_))
  obtain⟨WF,ao,ap,a3⟩:=DL ad.o #[ι 3,false,ω 0,ω 0,ω 0,ω 0,ω 0,ω 0,(),ι 0,ω 0,ω 0,(),(),υ c.1,υ c.2.1,δ N c.2.2.1.length M];rw[ao];have aj:=qg.to_more (ai.o.al _) a3 (λb e=>by omega);have an:SlI .u8 WF (δ N c.2.2.1.length M) c.2.2.1:=SlI.off2 (S.o.keep (ai.o.al _)) (λay b O (e:b=w.heap.size+1)=>by have:=S.o.old ay O;omega) a3;refine bodyPost_ret (v:= .tuple #[θ #[ι 3,false,ω 0,ω 0,ω 0,ω 0,ω 0,ω 0,(),ι 0,ω 0,ω 0,(),(),υ c.1,υ c.2.1,δ N c.2.2.1.length M],ι 0]) (vR results213 _ _ (w.heap.size+1) _ _ _ _ rfl rfl ap underlying256 rfl ξ) rfl ?_;exact⟨⟨_,_,_,_,rfl,⟨SlP.nil _ _ _,⟨SlP.nil _ _ _,SlI.nil _ _⟩,an⟩,jX.nil w,jX.nil w,jX.nil w,Or.inr rfl⟩,aj⟩
 ·have am:Hid (qv c=(⟨2,Qh,(qJ c).1,Gj⟩,(qJ c).2)):=κ (by unfold qv;rw[if_neg (λe=>e.elim ab ag),if_neg h5]);rw[am.o];have aD:((qJ c).2==5)=false:=beq_eq_false_iff_ne.2 h5;clear ab ag h5
  go_enter func213,ntmps213
  go_wp2_with (first | (go_at_call 242;(go_call (J.o▸aq.o) as e w1 ⟨⟨af,aa,rfl,s1,ac,n2⟩,m⟩;have ak:=κ s1;have ar:=κ ac;have ax:=κ n2;obtain⟨⟨G,d,rfl,_⟩,⟨H,I,rfl,_⟩⟩:=id s1;have ai:=κ (Y.o.trans (J.o▸m));have ad:=κ (qs (qc (J.o▸m) ah.o) (.cells #[ι (qJ c).1.kind,ω (qJ c).1.snd,ω (qJ c).1.med,δ G (qJ c).1.asks.length d,δ H (qJ c).1.lost.length I] 246));have U:=κ (qs (qc (J.o▸m) av.o) (.cells #[ι (qJ c).1.kind,ω (qJ c).1.snd,ω (qJ c).1.med,δ G (qJ c).1.asks.length d,δ H (qJ c).1.lost.length I] 246));have aH:=β0 U.o;have aG:=β1 U.o;have aA:=β2 U.o;clear m ac n2 s1)) | (refine jU rfl 246 (.tmp 6) (.tmp 27) rfl w1 _ #[ι (qJ c).1.kind,ω (qJ c).1.snd,ω (qJ c).1.med,δ G (qJ c).1.asks.length d,δ H (qJ c).1.lost.length I] rfl rfl rfl ξ rfl rfl ?_) | (refine wpList_load_row rfl 246 (.tmp 6) rfl w1.heap.size rfl _ #[ι (qJ c).1.kind,ω (qJ c).1.snd,ω (qJ c).1.med,δ G (qJ c).1.asks.length d,δ H (qJ c).1.lost.length I] _ _ (heap_alloc_new w1 _) underlying246 rfl ξ ?_) | (refine zr rfl 256 (.tmp 2) (.tmp 34) rfl (w.heap.size+1) _ _ #[ι 2,false,ω 0,ω 0,ω 0,ω 0,ω 0,ω 0,(),ι (qJ c).1.kind,ω (qJ c).1.snd,ω (qJ c).1.med,δ G (qJ c).1.asks.length d,δ H (qJ c).1.lost.length I,υ 0,υ 0,()] ad.o rfl rfl ξ rfl (all_oneCell_toArray (by simp[Value.oneCell'])) ?_))
  obtain⟨WF,ao,ap,a3⟩:=DL ad.o #[ι 2,false,ω 0,ω 0,ω 0,ω 0,ω 0,ω 0,(),ι (qJ c).1.kind,ω (qJ c).1.snd,ω (qJ c).1.med,δ G (qJ c).1.asks.length d,δ H (qJ c).1.lost.length I,υ 0,υ 0,()];rw[ao];have aj:=qg.to_more (ai.o.al _) a3 (λb e=>by omega);have az:jX W0 (δ G (qJ c).1.asks.length d):=by rw[<-J.o];exact ar.o
  have au:jX W0 (δ H (qJ c).1.lost.length I):=by rw[<-J.o];exact ax.o
  have an:DG WF (δ G (qJ c).1.asks.length d) (δ H (qJ c).1.lost.length I) (qJ c).1:=⟨Ju (ak.o.asks.keep Cb (qa.alloc _ _)) (λb O (e:b=w.heap.size+1)=>by have:=az b O;have:=qn ah.o;omega) a3,SlI.off (ak.o.lost.keep (qa.alloc _ _)) (λb O (e:b=w.heap.size+1)=>by have:=au b O;have:=qn ah.o;omega) a3⟩;have aE:jX w (δ G (qJ c).1.asks.length d):=λb O=>by have:=az b O;have:=Y.o.size;omega
  have aC:jX w (δ H (qJ c).1.lost.length I):=λb O=>by have:=au b O;have:=Y.o.size;omega
  refine bodyPost_ret (v:= .tuple #[θ #[ι 2,false,ω 0,ω 0,ω 0,ω 0,ω 0,ω 0,(),ι (qJ c).1.kind,ω (qJ c).1.snd,ω (qJ c).1.med,δ G (qJ c).1.asks.length d,δ H (qJ c).1.lost.length I,υ 0,υ 0,()],ι (qJ c).2]) (vR results213 _ _ (w.heap.size+1) _ _ _ _ rfl rfl ap underlying256 rfl ξ) rfl ?_;exact⟨⟨_,_,_,_,rfl,⟨SlP.nil _ _ _,an,SlI.nil _ _⟩,jX.nil w,aE,aC,Or.inl (jX.nil w)⟩,aj⟩
theorem Wi (c:qQ) (G:Option Addr) (d:Nat) (w:World) (s:SlI .u8 w (δ G c.2.2.1.length d) c.2.2.1) (H:xk c) (I:c.2.2.1.length<=400):
  Calls prog 213 #[θ #[υ c.1,υ c.2.1,δ G c.2.2.1.length d]] w λe w'=>(∃vb va vl vo,e= .returned (.tuple #[θ #[ι (qv c).1.kind,μ (qv c).1.rep.snd,ω (qv c).1.rep.src,ω (qv c).1.rep.inf.sec,ω (qv c).1.rep.inf.frac,ω (qv c).1.rep.inf.stamp,ω (qv c).1.rep.inf.pkts,ω (qv c).1.rep.inf.octs,vb,ι (qv c).1.msg.kind,ω (qv c).1.msg.snd,ω (qv c).1.msg.med,va,vl,υ (qv c).1.oth.1,υ (qv c).1.oth.2.1,vo],ι (qv c).2])/\Gq w' vb va vl vo (qv c).1/\jX w vb/\jX w va/\jX w vl/\Ww w vo (δ G c.2.2.1.length d))/\qa w w':=by
 by_cases h1:c.2.1=200
 ·exact XO c G d w s H I (Or.inl h1)
 ·by_cases h2:c.2.1=201
  ·exact XO c G d w s H I (Or.inr h2)
  ·exact Wh c G d w s H I h1 h2
theorem Fg {D:Nat->Prop} {w:World} {vb d G vo:Value} {x:Itm} (s:Gq w vb d G vo x) (M:Wu x) (J: ∀g,vb.ownBlock=some g-> ¬D g) (N: ∀g,d.ownBlock=some g-> ¬D g) (H: ∀g,G.ownBlock=some g-> ¬D g) (I:x.oth.2.2.1≠[]-> ∀g,vo.ownBlock=some g-> ¬D g):jw Qk D w (Hx x vb d G vo) x:=
 λ_ a=>⟨vb,d,G,vo,rfl,⟨Yv s.bl J a,⟨Ju s.ms.asks N a,s.ms.lost.off H a⟩,s.bo.off2 I a⟩,M⟩
theorem Cd {c:qQ} (d:xk c):Wu (qv c).1:=by
 unfold qv;split
 ·exact⟨Bf d,gC,WQ⟩
 split
 ·exact⟨WJ,gC,d⟩
 ·exact⟨WJ,Bg d,WQ⟩
theorem Xa {k:List qQ} (h:szC k<=200) (i:Nat) (hi:i<k.length):(k.getD i xu).2.2.1.length<=400/\k.length<=200:=by
 have I:(k.getD i xu).2.2.1.length+4<=szC k:=by
  have:=JZ k i hi;have:=DX k (i+1);omega
 have G: ∀j,j<=k.length->j<=szC (k.take j):=by
  intro j
  induction j with
  | zero=>intro _;omega
  | succ j ih=>
   intro H;have:=JZ k j τ;have:=ih τ;omega
 have d:=G k.length (Nat.le_refl _);rw[List.take_length] at d;omega
structure ItJ (w wr:World) (u v:Value) (A:List Itm) (E:List Int):Prop where
 row:je 17 Qk (λb=>v.ownBlock=some b) wr w.heap.size 256 u A
 errs:wr.ownsRow w.heap.size 29 1 v E.length (E.map (Value.int .i64))
 more:qa w wr
theorem ItJ.on {w wr w':World} {u v:Value} {A:List Itm} {E:List Int} (h:ItJ w wr u v A E) (m:qa wr w'):ItJ w w' u v A E:=⟨h.row.on m,jE h.errs m,h.more.trans m⟩
theorem ItJ.put {w wr w':World} {u v d:Value} {A A':List Itm} {E:List Int} (h:ItJ w wr u v A E) (H:je 17 Qk (λb=>v.ownBlock=some b) w' w.heap.size 256 d A') (g:wr.grownBy w' u.ownBlock):ItJ w w' d v A' E:=
 ⟨H,XB h.errs g (λb I e=>h.row.apart b e I),Below.grown h.more g h.more.size (λk G=>h.row.ge G)⟩
theorem ItJ.err {w wr w':World} {u v v':Value} {A:List Itm} {E E':List Int} (h:ItJ w wr u v A E) (d:w'.ownsRow w.heap.size 29 1 v' E'.length (E'.map (Value.int .i64))) (g:wr.grownBy w' v.ownBlock) (H:v'.ownBlock=v.ownBlock∨v'.ownBlock=some wr.heap.size):ItJ w w' u v' A E':=
 ⟨h.row.beside g H,d,Below.grown h.more g h.more.size (λk G=>jG h.errs G)⟩
theorem wi {w wr G:World} {u v x:Value} {A:List Itm} {E:List Int} (h:ItJ w wr u v A E) (I:wr.heap.size<=G.heap.size) (f:jX G x): ∀g,x.ownBlock=some g-> ¬(v.ownBlock=some g∨u.ownBlock=some g):=by
 intro g H d;have J:=f g H;rcases d with d | d
 ·have:=gB h.errs d;omega
 ·have:=h.row.lt d;omega
theorem US {w wr O:World} {u v:Value} {J U:Option Addr} {M N:Nat} {A:List Itm} {E:List Int} {c G:List Int} (h:ItJ w wr u v A E) (f:Ww O (δ J c.length M) (δ U G.length N)) (aa:SlI .u8 w (δ U G.length N) G) (ac:wr.heap.size<=O.heap.size):
  c≠[]-> ∀g,(δ J c.length M).ownBlock=some g-> ¬(v.ownBlock=some g∨u.ownBlock=some g):=by
 intro Y g H d;rcases f with f | f
 ·exact wi h ac f g H d
 ·have I:=f;injection I with _ I _
  have ab:G≠[]:=λe=>Y (List.eq_nil_of_length_eq_zero (by rw[I,e];rfl))
  rw[f] at H;have ad:=aa.old ab H;rcases d with d | d
  ·have:=jG h.errs d;omega
  ·have:=h.row.ge d;omega
theorem Dq (b:List Int) (v:Value) (w:World) (H:SlI .u8 w v b) (N:Byt b) (M:b.length<=1000000) (d: ¬(jI b).2=0):
  Calls prog 174 #[v] w λe w'=> ∃vx,e= .returned (.tuple #[vx,ι (zx b).2])/\SlP 17 Qk w' vx (zx b).1/\qa w w':=by
 have J:=κ (Z6 v b w H N M);have I:Hid (zx b=([],(jI b).2)):=κ (by unfold zx;rw[if_neg d]);have U:((jI b).2 != 0)=true:=by simp[d]
 clear H d;rw[I.o]
 go_enter func174,ntmps174
 go_wp2_with (go_at_call 212;(go_call J.o as e w1 ⟨Y,rfl,s1,G⟩;have O:=κ G;clear s1 G))
 go_ret2
 exact⟨_,rfl,SlP.nil _ _ _,O.o⟩
theorem Wb (b:List Int) (v:Value) (w:World) (sl:SlI .u8 w v b) (aC:Byt b) (bd:b.length<=1000000) (ac:(jI b).2=0):
  Calls prog 174 #[v] w λe w'=> ∃vx,e= .returned (.tuple #[vx,ι (zx b).2])/\SlP 17 Qk w' vx (zx b).1/\qa w w':=by
 obtain⟨bc,hi,bp,bk,aR⟩:=info_parts (P:=prog) (e:=256) (z:= Γf) (size:=17) (bytes:=160) ξ;obtain⟨aV,br,bq,aU,bj⟩:=info_parts (P:=prog) (e:=29) (z:= ι 0) (size:=1) (bytes:=8) ξ;have ab:=κ (Z6 v b w sl aC bd);have au:Hid (szC (jI b).1<=200):=κ (QY aC (k:=(jI b).1) (by rw[<-ac])).2.2.2;have G:Hid (zx b=if vg ((jI b).1.map λc=>(qv c).2)=0 then ((jI b).1.map λc=>(qv c).1,0) else ([],vg ((jI b).1.map λc=>(qv c).2))):=κ (by unfold zx;rw[if_pos ac]);have aX:=κ ac;clear sl ac;generalize (jI b).1=l at *
 go_enter func174,ntmps174
 go_wp2_with (go_at_call 212;(go_call ab.o as e w1 ⟨bN,rfl,s1,aH⟩;rw[aX.o];have bG:=κ s1;have aN:=κ aH;obtain⟨bx,cap,rfl,bz,aM⟩:=Ae s1;have aZ:=κ aM;clear s1 aH aM))
 have bi:Hid (ItJ w1 w1 (δ none 0 0) (δ none 0 0) [] []):=κ ⟨je.nil _ _ _ _ _ _,World.ownsRow_nil _ _ _ _,qa.refl _⟩;clear ab
 go_loopw [6,7,23] (λu v ak wr=> ∃(j:Nat),j<=l.length/\ak= ι j/\(∃ap aq ag af an ai,u= δ ap aq ag/\v= δ af an ai/\ItJ w1 wr (δ ap aq ag) (δ af an ai) ((l.take j).map λc=>(qv c).1) ((l.take j).map λc=>(qv c).2))) (λ_ _ ak _=>l.length-(intOf ak).toNat)
 case atStart=>exact⟨0,τ,rfl,_,_,_,_,_,_,rfl,rfl,bi.o⟩
 case round=>
  obtain⟨j,bI,rfl,ap,aq,ag,af,an,ai,rfl,rfl,aB⟩:=hrel;have d:=κ aB;clear aB;by_cases hlt:j<l.length
  ·obtain⟨bA,bv,vb,rfl,ba,ar⟩:=aZ.o j hlt;obtain⟨bM,c1,c2,aK,aE⟩:=ar.more d.o.more ba;have bm:=κ ar.sl;have av:=κ aE;have aQ:=κ aK;obtain⟨aG,bL⟩:=Xa au.o j hlt;have bn:=κ aG;have bw:(j:Int)<(l.length:Int):=by omega
   have ab:=κ (kv l j xu hlt);have aJ:Hid ((l.take j).length=j/\j<=200):=κ ⟨by simp;omega,τ⟩;clear ar aE aG;generalize l.take j=acc at *;generalize l.getD j xu=c at *;obtain⟨ah,ao,rfl,_⟩:=aK
   go_wp2_with (first | (go_at_call 213;(go_call Wi c ah ao _ (aQ.o.keep (qa.alloc _ _)) av.o bn.o as e w2 ⟨⟨bt,bH,bJ,bB,rfl,s2,n2,aI,aF,ay⟩,aw⟩;have aT:=κ s2;obtain⟨M,J,rfl,_⟩:=id s2.bl;obtain⟨Y,H,rfl,_⟩:=id s2.ms.asks;obtain⟨U,N,rfl,_⟩:=id s2.ms.lost;obtain⟨I,aa,rfl,_⟩:=id s2.bo;have O:=(qa.alloc wr (.cells #[υ c.1,υ c.2.1,δ ah c.2.2.1.length ao] 254)).size;have bf:=κ (wi d.o O n2);have bh:=κ (wi d.o O aI);have be:=κ (wi d.o O aF);have aS:=κ (US d.o ay bm.o O);have bg:=κ ((qa.alloc wr (.cells #[υ c.1,υ c.2.1,δ ah c.2.2.1.length ao] 254)).trans aw);clear aw n2 aI aF ay s2 O;have ad:=κ ((d.o.on bg.o).on ((qa.alloc w2 (.cells #[ι (qv c).1.kind,μ (qv c).1.rep.snd,ω (qv c).1.rep.src,ω (qv c).1.rep.inf.sec,ω (qv c).1.rep.inf.frac,ω (qv c).1.rep.inf.stamp,ω (qv c).1.rep.inf.pkts,ω (qv c).1.rep.inf.octs,δ M (qv c).1.rep.bl.length J,ι (qv c).1.msg.kind,ω (qv c).1.msg.snd,ω (qv c).1.msg.med,δ Y (qv c).1.msg.asks.length H,δ U (qv c).1.msg.lost.length N,υ (qv c).1.oth.1,υ (qv c).1.oth.2.1,δ I (qv c).1.oth.2.2.1.length aa] 256)).al (.cells #[ι (qv c).1.kind,μ (qv c).1.rep.snd,ω (qv c).1.rep.src,ω (qv c).1.rep.inf.sec,ω (qv c).1.rep.inf.frac,ω (qv c).1.rep.inf.stamp,ω (qv c).1.rep.inf.pkts,ω (qv c).1.rep.inf.octs,δ M (qv c).1.rep.bl.length J,ι (qv c).1.msg.kind,ω (qv c).1.msg.snd,ω (qv c).1.msg.med,δ Y (qv c).1.msg.asks.length H,δ U (qv c).1.msg.lost.length N,υ (qv c).1.oth.1,υ (qv c).1.oth.2.1,δ I (qv c).1.oth.2.2.1.length aa] 256))))) | (refine jU rfl 256 (.tmp 10) (.tmp 30) rfl w2 _ #[ι (qv c).1.kind,μ (qv c).1.rep.snd,ω (qv c).1.rep.src,ω (qv c).1.rep.inf.sec,ω (qv c).1.rep.inf.frac,ω (qv c).1.rep.inf.stamp,ω (qv c).1.rep.inf.pkts,ω (qv c).1.rep.inf.octs,δ M (qv c).1.rep.bl.length J,ι (qv c).1.msg.kind,ω (qv c).1.msg.snd,ω (qv c).1.msg.med,δ Y (qv c).1.msg.asks.length H,δ U (qv c).1.msg.lost.length N,υ (qv c).1.oth.1,υ (qv c).1.oth.2.1,δ I (qv c).1.oth.2.2.1.length aa] rfl rfl rfl ξ rfl (all_oneCell_toArray (by simp[Value.oneCell'])) ?_) | (refine wpList_load_row rfl 256 (.tmp 10) rfl w2.heap.size rfl _ #[ι (qv c).1.kind,μ (qv c).1.rep.snd,ω (qv c).1.rep.src,ω (qv c).1.rep.inf.sec,ω (qv c).1.rep.inf.frac,ω (qv c).1.rep.inf.stamp,ω (qv c).1.rep.inf.pkts,ω (qv c).1.rep.inf.octs,δ M (qv c).1.rep.bl.length J,ι (qv c).1.msg.kind,ω (qv c).1.msg.snd,ω (qv c).1.msg.med,δ Y (qv c).1.msg.asks.length H,δ U (qv c).1.msg.lost.length N,υ (qv c).1.oth.1,υ (qv c).1.oth.2.1,δ I (qv c).1.oth.2.2.1.length aa] _ _ (heap_alloc_new w2 _) underlying256 rfl ξ ?_) | (at_builtin;refine jN _ rfl (.tmp 32) (.tmp 34) 257 rfl w1.heap.size 256 bc (Γf) 17 160 underlying257 hi bp bk aR rfl ζ _ (acc.map λc=>(qv c).1) rfl ad.o.row (w2.heap.size+1) [ι (qv c).1.kind,μ (qv c).1.rep.snd,ω (qv c).1.rep.src,ω (qv c).1.rep.inf.sec,ω (qv c).1.rep.inf.frac,ω (qv c).1.rep.inf.stamp,ω (qv c).1.rep.inf.pkts,ω (qv c).1.rep.inf.octs,δ M (qv c).1.rep.bl.length J,ι (qv c).1.msg.kind,ω (qv c).1.msg.snd,ω (qv c).1.msg.med,δ Y (qv c).1.msg.asks.length H,δ U (qv c).1.msg.lost.length N,υ (qv c).1.oth.1,υ (qv c).1.oth.2.1,δ I (qv c).1.oth.2.2.1.length aa] (qv c).1 rfl rfl (zS η) (by simp[Value.oneCell']) ((Fg aT.o (Cd av.o) bf.o bh.o be.o aS.o).on ((qa.alloc _ _).al _)) (λb h=>gB ad.o.errs h) ζ (by have:=aJ.o;rw[List.length_map];omega) ad.o.more.size ?_;intro v8 w8 aj ax aP;have ae:=κ (ad.o.put aj ax);obtain⟨bD,bK,bu,rfl,bb,aY⟩:=aj.shape;clear aj ax aP bb aY) | (at_builtin;refine qU _ rfl (.tmp 36) (.tmp 38) 356 rfl w1.heap.size 29 aV (ι 0) 8 underlying356 br bq aU bj rfl _ .i64 (acc.map λc=>(qv c).2) rfl (ae.o.on (qa.alloc _ _)).errs _ [(qv c).2] rfl (SlI.lit .i64 w8 [(qv c).2] 29 _ 1 _ rfl rfl rfl η) (by have:=aJ.o;rw[List.length_map];simp;omega) ζ (by have:=ae.o.more.size;simp;omega) ?_;intro v9 w9 am aD aA;have aW:=κ ((ae.o.on (qa.alloc _ _)).err am aD aA);obtain⟨bF,bE,az⟩:=xl am;rw[show ((acc.map λc=>(qv c).2)++[(qv c).2]).length=acc.length+1 from by simp] at az;subst az;clear am aD aA))
   go_roundw
   case rel=>exact⟨j+1,τ,by go_num,_,_,_,_,_,_,rfl,rfl,by rw[ab.o,List.map_append,List.map_append];exact aW.o⟩
   case measure=>simp[intOf];omega
  ·obtain rfl:j=l.length:=by omega
   rw[List.take_length] at d
   have aL:Hid ((l.map λc=>(qv c).2).length<=1000):=κ (by
    rw[List.length_map];by_cases he:0<l.length
    ·have:=(Xa au.o 0 he).2;omega
    ·omega)
   by_cases hf:vg (l.map λc=>(qv c).2)=0
   ·have aO:=κ hf;rw[if_pos hf] at G;clear hf
    go_wp2_with (go_at_call 202;(go_call gh (l.map λc=>(qv c).2) _ _ (SlI.of_owns d.o.errs (by have:=aL.o;omega)) as e bs ⟨rfl,rfl⟩;rw[aO.o]))
    go_ret2
    exact⟨_,by rw[G.o];rfl,by rw[G.o];exact d.o.row.sl ζ,aN.o.trans d.o.more⟩
   ·have bC:(vg (l.map λc=>(qv c).2) != 0)=true:=by simp[hf]
    rw[if_neg hf] at G;clear hf
    go_wp2_with (go_at_call 202;(go_call gh (l.map λc=>(qv c).2) _ _ (SlI.of_owns d.o.errs (by have:=aL.o;omega)) as e bs ⟨rfl,rfl⟩))
    go_ret2
    exact⟨_,by rw[G.o];rfl,by rw[G.o];exact SlP.nil _ _ _,aN.o.trans d.o.more⟩
theorem Dr (b:List Int) (v:Value) (w:World) (d:SlI .u8 w v b) (H:Byt b) (G:b.length<=1000000):
  Calls prog 174 #[v] w λe w'=> ∃vx,e= .returned (.tuple #[vx,ι (zx b).2])/\SlP 17 Qk w' vx (zx b).1/\qa w w':=by
 by_cases h0:(jI b).2=0
 ·exact Wb b v w d H G h0
 ·exact Dq b v w d H G h0
def go (x:Itm):List Int:=if x.kind=2 then (if x.msg.kind=1 then [x.msg.med] else if x.msg.kind=2 then x.msg.asks.map Prod.fst else []) else []
def xU (l:List Itm):List Int:=l.flatMap go
theorem Cr {x:Itm} (h:CY x):(go x).length<=100000:=by
 unfold go;split
 ·split
  ·simp
  ·split
   ·rw[List.length_map];exact h.asks
   ·simp
 ·simp
theorem U6 (l m:List Itm):xU (l++m)=xU l++xU m:=by simp[xU]
theorem U5 (x:Itm):xU [x]=go x:=by simp[xU]
theorem wY: ∀{l:List Itm},(∀x∈l,CY x)->(xU l).length<=l.length* 100000
 | [],_=>by simp[xU]
 | x::l,h=>by
  have H:=Cr (h x η);have G:=wY (l:=l) λy d=>h y (by simp[d])
  show ((go x)++xU l).length<=_;rw[List.length_append,List.length_cons];omega
structure AsJ (w wr:World) (u:Value) (A:List Int):Prop where
 row:wr.ownsRow w.heap.size 37 1 u A.length (A.map (Value.int .u32))
 more:qa w wr
theorem AsJ.on {w wr w':World} {u:Value} {A:List Int} (h:AsJ w wr u A) (m:qa wr w'):AsJ w w' u A:=⟨jE h.row m,h.more.trans m⟩
theorem AsJ.put {w wr w':World} {u d:Value} {A A':List Int} (h:AsJ w wr u A) (H:w'.ownsRow w.heap.size 37 1 d A'.length (A'.map (Value.int .u32))) (g:wr.grownBy w' u.ownBlock):AsJ w w' d A':=
 ⟨H,Below.grown h.more g h.more.size (λk G=>jG h.row G)⟩
theorem Wo (l:List Itm) (v:Value) (w:World) (ar:SlP 17 Qk w v l) (bj:l.length<=1000) (az: ∀x∈l,CY x):
  Calls prog 175 #[v] w λe w'=> ∃vx,e= .returned vx/\(SlI .u32 w' vx (xU l)/\ ∀q,vx.ownBlock=some q->w.heap.size<=q)/\qa w w':=by
 obtain⟨aF,hi,aD,ay,av⟩:=info_parts (P:=prog) (e:=37) (z:= ω 0) (size:=1) (bytes:=4) ξ;obtain⟨bd,cap,rfl,be,aq,aW⟩:=Mf ar;have aM:=κ aq;have an:=κ az;have aY:Hid (AsJ w w (δ none 0 0) []):=κ ⟨World.ownsRow_nil _ _ _ _,qa.refl _⟩;clear ar aq aW az
 go_enter func175,ntmps175
 go_wp2
 go_loopw [3,10] (λu G wr=> ∃j:Nat,j<=l.length/\G= ι j/\AsJ w wr u (xU (l.take j))) (λ_ G _=>l.length-(intOf G).toNat)
 case atStart=>exact⟨0,τ,rfl,aY.o⟩
 case round=>
  obtain⟨j,bg,rfl,N⟩:=hrel;have d:=κ N;clear N;by_cases hlt:j<l.length
  ·obtain⟨b,aI,aj,af,ai,al,ad,am,ah,ac,rfl,aG,aC,ax⟩:=aM.o j hlt;have aX:=κ (Y0 aC d.o.more aG);have aw:l.getD j wL∈l:=by rw[List.getD_eq_getElem?_getD,List.getElem?_eq_getElem hlt];exact List.getElem_mem hlt
   have aV:=κ (an.o _ aw);have aR:=κ ax.ms.asks;have bc:(j:Int)<(l.length:Int):=by omega
   have bm:b<wr.heap.size:=Nat.lt_of_lt_of_le aG d.o.more.size;have ae:Hid (xU (l.take (j+1))=xU (l.take j)++go (l.getD j wL)):=κ (by rw[kv l j wL hlt,U6,U5])
   have Y:Hid ((xU (l.take j)).length<=100000000):=κ (by
    have:=wY (l:=l.take j) λx aZ=>an.o x (List.mem_of_mem_take aZ)
    rw[List.length_take] at this
    omega)
   clear aC ax aw;generalize xU (l.take j)=acc at *;generalize l.getD j wL=x at *
   go_upto_region 5 with (first | (refine wpList_load_mid rfl 256 (.tmp 12) rfl b (aI+j* 17) rfl (Γo x aj af ai al ad am ah ac) _ aX.o underlying256 rfl ξ ?_) | (refine jU rfl 256 (.tmp 5) (.tmp 13) rfl wr _ (Γo x aj af ai al ad am ah ac) rfl rfl rfl ξ rfl rfl ?_))
   obtain⟨ab,ag⟩:=ν (wr.alloc (.cells (Γo x aj af ai al ad am ah ac) 256));have aa:Hid (qa wr ab):=κ (by rw[<-ag];exact qa.alloc _ _);have H:Hid (ab.heap[wr.heap.size]? =some (.cells (Γo x aj af ai al ad am ah ac) 256 (0,0))):=κ (by rw[<-ag];exact qj _ _);rw[ag];clear ag;have aT:wr.heap.size<ab.heap.size:=qn H.o;have t0:=β0 H.o;have t9:=β9 H.o;have aH:=β11 H.o;have aJ:=β12 H.o;have aO:=β13 H.o;by_cases hk:x.kind=2
   ·have aU:(x.kind != 2)=false:=by simp[hk]
    by_cases h1:x.msg.kind=1
    ·have aQ:(x.msg.kind==1)=true:=by simp[h1]
     have I:Hid (go x=[x.msg.med]):=κ (by unfold go;rw[if_pos hk,if_pos h1]);clear hk h1;have O:=κ (d.o.on aa.o)
     go_wp2_with (at_builtin;refine qU _ rfl (.tmp 22) (.tmp 26) 53 rfl w.heap.size 37 aF (ω 0) 4 underlying53 hi aD ay av rfl _ .u32 acc rfl (O.o.on (qa.alloc _ _)).row _ [x.msg.med] rfl (SlI.lit .u32 ab [x.msg.med] 37 _ 1 _ rfl rfl rfl η) (by have:=Y.o;simp;omega) ζ (by have:=O.o.more.size;simp;omega) ?_;intro v9 w9 M U ao;have ap:=κ ((O.o.on (qa.alloc _ _)).put M U);clear M U ao)
     go_roundw
     case measure=>simp[intOf];omega
     case rel=>exact⟨j+1,τ,by go_num,by rw[ae.o,I.o];exact ap.o⟩
    ·have aQ:(x.msg.kind==1)=false:=by simp[h1]
     by_cases h2:x.msg.kind=2
     ·have aS:(x.msg.kind==2)=true:=by simp[h2]
      have I:Hid (go x=x.msg.asks.map Prod.fst):=κ (by unfold go;rw[if_pos hk,if_neg h1,if_pos h2]);clear hk h1 h2;have O:=κ (d.o.on aa.o);go_wp2;have bf:=κ d.o.more;obtain⟨aA,rfl⟩: ∃aA:World,aA=wr:=⟨_,rfl⟩;have au:=κ aV.o.asks;generalize x.msg.asks=ak at *;have bo:ak.length<=100000:=au.o;clear t0 t9 aH aJ aO H aT
      go_loopw [3,34] (λu G wr=> ∃i:Nat,i<=ak.length/\G= ι i/\AsJ w wr u (acc++(ak.take i).map Prod.fst)) (λ_ G _=>ak.length-(intOf G).toNat)
      case atStart=>exact⟨0,τ,rfl,by simpa using O.o⟩
      case round=>
       obtain⟨i,bk,rfl,N⟩:=hrel;have J:=κ N;clear N;by_cases hlt3:i<ak.length
       ·obtain⟨bn,bh,rfl,bi,aE,aL,ba⟩:=Dj aR.o i hlt3;obtain⟨bl,c1⟩:=aE _ J.o.more;have bb:(i:Int)<(ak.length:Int):=by omega
        have aP:Hid (acc++(ak.take (i+1)).map Prod.fst=(acc++(ak.take i).map Prod.fst)++[(ak.getD i (0,0)).1]):=κ (by rw[kv ak i (0,0) hlt3,List.map_append,List.append_assoc];rfl);have aN:Hid ((acc++(ak.take i).map Prod.fst).length<=100100000):=κ (by have:=Y.o;have:=au.o;rw[List.length_append,List.length_map,List.length_take];omega);clear aE aL ba;generalize acc++(ak.take i).map Prod.fst=acc3 at *;generalize (ak.getD i (0,0)).1=y1 at *;generalize (ak.getD i (0,0)).2=y2 at *;have aB:=κ (J.o.on (qa.alloc wr (.cells #[ω y1,υ y2] 372)))
        go_wp2_with (at_builtin;refine qU _ rfl (.tmp 38) (.tmp 41) 53 rfl w.heap.size 37 aF (ω 0) 4 underlying53 hi aD ay av rfl _ .u32 acc3 rfl (aB.o.on (qa.alloc _ _)).row _ [y1] rfl (SlI.lit .u32 (wr.alloc (.cells #[ω y1,υ y2] 372)) [y1] 37 _ 1 _ rfl rfl η η) (by have:=aN.o;rw[List.length_singleton];omega) ζ (by have:=J.o.more.size;simp;omega) ?_;intro v9 w9 M U ao;have ap:=κ ((aB.o.on (qa.alloc _ _)).put M U);clear M U ao)
        go_roundw
        case measure=>simp[intOf];omega
        case rel=>exact⟨i+1,τ,by go_num,by rw[aP.o];exact ap.o⟩
       ·obtain rfl:i=ak.length:=by omega
        rw[List.take_length] at J;go_wp2;go_roundw
        case measure=>simp[intOf];omega
        case rel=>exact⟨j+1,τ,by go_num,by rw[ae.o,I.o];exact J.o⟩
     ·have aS:(x.msg.kind==2)=false:=by simp[h2]
      have I:Hid (go x=[]):=κ (by unfold go;rw[if_pos hk,if_neg h1,if_neg h2]);clear hk h1 h2;go_wp2;go_roundw
      case measure=>simp[intOf];omega
      case rel=>exact⟨j+1,τ,by go_num,by rw[ae.o,I.o,List.append_nil];exact d.o.on aa.o⟩
   ·have aU:(x.kind != 2)=true:=by simp[hk]
    have I:Hid (go x=[]):=κ (by unfold go;rw[if_neg hk]);clear hk;go_wp2;go_roundw
    case measure=>simp[intOf];omega
    case rel=>exact⟨j+1,τ,by go_num,by rw[ae.o,I.o,List.append_nil];exact d.o.on aa.o⟩
  ·obtain rfl:j=l.length:=by omega
   rw[List.take_length] at d;have Y:Hid ((xU l).length<=100000000):=κ (by have:=wY (l:=l) an.o;omega);go_wp2;go_ret;exact⟨_,rfl,⟨SlI.of_owns d.o.row (by have:=Y.o;omega),λq aK=>jG d.o.row aK⟩,d.o.more⟩
section
open Go.RowKit
structure Ds where
 lo:Bool
 st:Bool
 pt:Int
 pic:Int
 wd:Bool
 bs:Int
 tr:Int
 sy:Bool
 ky:Int
def ds0:Ds:=⟨false,false,0,0,false,0,0,false,0⟩
def b1 (b:Bool) (n:Int):Int:=if b then n else 0
def nB (s:RdS):Int:=num (tkB s.1 1)
def bit (n k:Int):Bool:=decide (n/k%2=1)
def zd (s:RdS):Int×Int×RdS:=if bit (nB s) 128 then (nB s,nB (tkS s 1),tkS (tkS s 1) 1) else (nB s,0,tkS s 1)
def gk (t:Int) (s:RdS):(Int×Bool)×RdS:=if bit t 128 then (if nB s<128 then ((nB s,false),tkS s 1) else (((nB s-128)* 256+nB (tkS s 1),true),tkS (tkS s 1) 1)) else ((-1,false),s)
def Jl (t:Int) (s:RdS):Int×RdS:=if bit t 64 then (nB s,tkS s 1) else (-1,s)
def QP (t:Int) (s:RdS):Int×RdS:=if bit t 32||bit t 16 then (nB s,tkS s 1) else (0,s)
def mkD (f t:Int) (p:Int×Bool) (b q:Int):Ds:=⟨bit f 32,bit f 16,f%8,p.1,p.2,b,if bit t 32 then q/64 else -1,bit t 32&&bit q 32,if bit t 16 then q%32 else -1⟩
def Zs (f t:Int) (s:RdS):Ds×RdS:=
 (mkD f t (gk t s).1 (Jl t (gk t s).2).1 (QP t (Jl t (gk t s).2).2).1,(QP t (Jl t (gk t s).2).2).2)
def DE (n:Int) (x:Ds×RdS):Ds×Int×Int:=if x.2.2=3 then (ds0,0,3) else (x.1,n-x.2.1.length,0)
def qW (b:List Int):Ds×Int×Int:=DE b.length (Zs (zd (b,0)).1 (zd (b,0)).2.1 (zd (b,0)).2.2)
def zJ (b:List Int):Bool:=
 decide ((qW b).2.2=0)&&(qW b).1.st&&decide ((qW b).1.pt=0)&&decide ((qW b).2.1<b.length)&&decide (b.getD (qW b).2.1.toNat 0%2=0)
end
section
open Go.RowKit
theorem GI (f t:Int) (s:RdS):(Zs f t s).2.1.length<=s.1.length:=by
 have d: ∀s:RdS,(tkS s 1).1.length<=s.1.length:=λs=>by unfold tkS tkL;rw[List.length_drop];omega
 unfold Zs;have H:(gk t s).2.1.length<=s.1.length:=by
  unfold gk;split
  ·split
   ·exact d _
   ·exact Nat.le_trans (d _) (d _)
  ·exact Nat.le_refl _
 have I: ∀s,(Jl t s).2.1.length<=s.1.length:=λs=>by
  unfold Jl;split
  ·exact d _
  ·exact Nat.le_refl _
 have G: ∀s,(QP t s).2.1.length<=s.1.length:=λs=>by
  unfold QP;split
  ·exact d _
  ·exact Nat.le_refl _
 exact Nat.le_trans (G _) (Nat.le_trans (I _) H)
end
section
open Go.RowKit
theorem orB: ∀m:Fin 256,((m.val:Int)/128%2=0->bits .or .u8 (m.val:Int) 128=(m.val:Int)+128)/\((m.val:Int)/64%2=0->bits .or .u8 (m.val:Int) 64=(m.val:Int)+64)/\((m.val:Int)/32%2=0->bits .or .u8 (m.val:Int) 32=(m.val:Int)+32)/\((m.val:Int)/16%2=0->bits .or .u8 (m.val:Int) 16=(m.val:Int)+16):=of_decide_eq_true ξ
theorem Nw {x:Int} (h:0<=x/\x<=255):(x/128%2=0->bits .or .u8 x 128=x+128)/\(x/64%2=0->bits .or .u8 x 64=x+64)/\(x/32%2=0->bits .or .u8 x 32=x+32)/\(x/16%2=0->bits .or .u8 x 16=x+16):=by
 obtain⟨m,rfl⟩:=Int.eq_ofNat_of_zero_le h.1;exact orB ⟨m,τ⟩
theorem Nq: ∀m:Fin 256,(bits .and .u8 (m.val:Int) 128=if bit (m.val:Int) 128 then 128 else 0)/\(bits .and .u8 (m.val:Int) 64=if bit (m.val:Int) 64 then 64 else 0)/\(bits .and .u8 (m.val:Int) 32=if bit (m.val:Int) 32 then 32 else 0)/\(bits .and .u8 (m.val:Int) 16=if bit (m.val:Int) 16 then 16 else 0)/\bits .and .u8 (m.val:Int) 7=(m.val:Int)%8/\((bits .and .u8 (m.val:Int) 48 != 0)=(bit (m.val:Int) 32||bit (m.val:Int) 16)):=of_decide_eq_true ξ
theorem Zw {x:Int} (h:0<=x/\x<=255):(bits .and .u8 x 128=if bit x 128 then 128 else 0)/\(bits .and .u8 x 64=if bit x 64 then 64 else 0)/\(bits .and .u8 x 32=if bit x 32 then 32 else 0)/\(bits .and .u8 x 16=if bit x 16 then 16 else 0)/\bits .and .u8 x 7=x%8/\((bits .and .u8 x 48 != 0)=(bit x 32||bit x 16)):=by
 obtain⟨m,rfl⟩:=Int.eq_ofNat_of_zero_le h.1;exact Nq ⟨m,τ⟩
theorem Mp: ∀m:Fin 256,((bits .and .u8 (m.val:Int) 128 != 0)=bit (m.val:Int) 128)/\((bits .and .u8 (m.val:Int) 64 != 0)=bit (m.val:Int) 64)/\((bits .and .u8 (m.val:Int) 32 != 0)=bit (m.val:Int) 32)/\((bits .and .u8 (m.val:Int) 16 != 0)=bit (m.val:Int) 16):=of_decide_eq_true ξ
theorem JW {x:Int} (h:0<=x/\x<=255):((bits .and .u8 x 128 != 0)=bit x 128)/\((bits .and .u8 x 64 != 0)=bit x 64)/\((bits .and .u8 x 32 != 0)=bit x 32)/\((bits .and .u8 x 16 != 0)=bit x 16):=by
 obtain⟨m,rfl⟩:=Int.eq_ofNat_of_zero_le h.1;exact Mp ⟨m,τ⟩
end
section
open Go.RowKit
structure PrS (w0 w:World) (R hi Br B5 B7 B8:Nat) (s:RdS) (t:Int) (cs:Array Value):Prop where
 rd:qu w R s.1 s.2 (λg=>g<hi)
 more:qa w0 w
 br:w.heap[Br]? =some (.cells #[.bool false,.bool false,.int .u8 0,.int .i64 0,.bool false,.int .i64 0,.int .i64 0,.bool false,.int .i64 0] 329 (0,0))
 b5:w.heap[B5]? =some (.cells #[.pointer (some ⟨R,0,none⟩)] 137 (0,0))
 b7:w.heap[B7]? =some (.cells #[.int .u8 t] 5 (0,0))
 b8:w.heap[B8]? =some (.cells cs 329 (0,0))
 n0:w0.heap.size<=Br
 nR:Br<R
 n1:R<hi
 n5:hi<=B5
 n7:B5<B7
 n8:B7<B8
theorem PrS.step {G w w':World} {R hi Br H I d:Nat} {s s':RdS} {t:Int} {cs:Array Value} (h:PrS G w R hi Br H I d s t cs) (r:qu w' R s'.1 s'.2 (λg=>g<hi)) (a:qg (λb=>b=R) w w'):PrS G w' R hi Br H I d s' t cs:=by
 have:=h.n0;have:=h.nR;have:=h.n1;have:=h.n5;have:=h.n7;have:=h.n8;exact⟨r,qg.to_more h.more a (λk J=>by omega),a.blk h.br τ,a.blk h.b5 τ,a.blk h.b7 τ,a.blk h.b8 τ,h.n0,h.nR,h.n1,h.n5,h.n7,h.n8⟩
theorem PrS.on {H w w':World} {R hi Br G I d:Nat} {s:RdS} {t:Int} {cs:Array Value} (h:PrS H w R hi Br G I d s t cs) (m:qa w w'):PrS H w' R hi Br G I d s t cs:=
 ⟨h.rd.more m,h.more.trans m,qc m h.br,qc m h.b5,qc m h.b7,qc m h.b8,h.n0,h.nR,h.n1,h.n5,h.n7,h.n8⟩
theorem PrS.put8 {G w:World} {R hi Br H I d:Nat} {s:RdS} {t:Int} {cs:Array Value} (h:PrS G w R hi Br H I d s t cs) (i:Nat) (v:Value):PrS G (w.setCell ⟨d,i,none⟩ v) R hi Br H I d s t (cs.setIfInBounds i v):=by
 have:=h.n0;have:=h.nR;have:=h.n1;have:=h.n5;have:=h.n7;have:=h.n8;have a:qg (λb=>b=d) w (w.setCell ⟨d,i,none⟩ v):=(qg.refl (λb=>b=d) w).set (p:=⟨d,i,none⟩) rfl _;exact⟨h.rd.off a τ (λg J e=>by omega),h.more.st (p:=⟨d,i,none⟩) (by show _<=d;omega) _,a.blk h.br τ,a.blk h.b5 τ,a.blk h.b7 τ,qp h.b8 i v,h.n0,h.nR,h.n1,h.n5,h.n7,h.n8⟩
theorem Zt {s:RdS} (h:Byt s.1):0<=nB s/\nB s<=255:=by
 have:=zv (tkB s.1 1) 1 (jL h 1) (zh s.1 1 ζ) ζ;unfold nB;omega
def dC (f pic:Int) (wd:Bool) (bs tr:Int) (sy:Bool) (ky:Int):Array Value:= #[.bool (bit f 32),.bool (bit f 16),.int .u8 (f%8),.int .i64 pic,.bool wd,.int .i64 bs,.int .i64 tr,.bool sy,.int .i64 ky]
def PrQ (w0 w':World) (R hi Br B5 B7 B8 B10:Nat) (s:RdS) (t:Int) (cs:Array Value) (q:Int):Prop:=PrS w0 w' R hi Br B5 B7 B8 s t cs/\w'.heap[B10]? =some (.cells #[.int .u64 q] 190 (0,0))
def CQ (s:RdS):Int:=if nB s<128 then nB s else (nB s-128)* 256+nB (tkS s 1)
def CS (s:RdS):RdS:=if nB s<128 then tkS s 1 else tkS (tkS s 1) 1
def CO (s:RdS):Bool:=decide (¬nB s<128)
theorem FK {O w:World} {R hi Br M ad J:Nat} {s:RdS} {t f:Int} (h:PrS O w R hi Br M ad J s t (dC f 0 false 0 0 false 0)):
  Calls prog 222 #[γ M,γ J] w λe w'=>e= .returned (ι (CQ s))/\PrS O w' R hi Br M ad J (CS s) t (dC f 0 (CO s) 0 0 false 0):=by
 unfold CQ CS CO;have am:=Zt h.rd.byt;have U:Byt (tkS s 1).1:=h.rd.byt.drop _;have aj:=Zt U;have ai:=β0 h.b5;have H:=κ h;have aa:num (tkB s.1 1)=nB s:=rfl;have ab:num (tkB (tkS s 1).1 1)=nB (tkS s 1):=rfl;have ac:=κ aa;have ah:=κ ab;clear h aa ab U;by_cases hn:nB s<128
 ·rw[if_pos hn,if_pos hn,decide_eq_false τ];generalize ae:nB s=q at *;clear ae
  go_enter func222,ntmps222
  go_wp2_with (go_at_call 54;((with_reducible refine(jT H.o.rd).mono ?_);rintro e w1 ⟨rfl,d,G⟩;rw[ac.o];have I:=κ (H.o.step (s':=tkS s 1) d G);clear d G))
  go_ret;exact⟨rfl,I.o⟩
 ·rw[if_neg hn,if_neg hn,decide_eq_true τ];generalize nB s=q at *;generalize ag:nB (tkS s 1)=q2 at *;clear ag
  go_enter func222,ntmps222
  go_wp2_with first | (go_at_call 54;((with_reducible refine(jT H.o.rd).mono ?_);rintro e w1 ⟨rfl,d,G⟩;rw[ac.o];have I:=κ ((H.o.step (s':=tkS s 1) d G).put8 4 (μ true));have al:=qb (H.o.step (s':=tkS s 1) d G).b8 4 (v:= μ false) rfl;have an:=qd (H.o.step (s':=tkS s 1) d G).b8 4;have ak:=β0 I.o.b5;clear d G)) | (go_at_call 54;((with_reducible refine(jT I.o.rd).mono ?_);rintro e w2 ⟨rfl,Y,N⟩;rw[ah.o];have af:=κ (I.o.step (s':=tkS (tkS s 1) 1) Y N);clear Y N))
  go_ret;exact⟨rfl,af.o⟩
theorem FZ {J w:World} {R hi Br d M I:Nat} {s:RdS} {t:Int} {cs:Array Value} (h:PrS J w R hi Br d M I s t cs):
  Calls prog 223 #[γ d] w λe w'=>e= .returned (ι (nB s))/\PrS J w' R hi Br d M I (tkS s 1) t cs:=by
 have aa:=Zt h.rd.byt;have ab:=β0 h.b5;have G:=κ h;have N:num (tkB s.1 1)=nB s:=rfl;have U:=κ N;clear h N;generalize nB s=q at *
 go_enter func223,ntmps223
 go_wp2_with (go_at_call 54;((with_reducible refine(jT G.o.rd).mono ?_);rintro e w1 ⟨rfl,H,O⟩;rw[U.o];have Y:=κ (G.o.step (s':=tkS s 1) H O);clear H O))
 go_ret;exact⟨rfl,Y.o⟩
theorem Hg {q:Int} (h:0<=q/\q<=255):fld q 5 1=q/32%2/\fld q 6 2=q/64/\fld q 0 5=q%32:=by
 have t0:two 0=1:=by decide
 have t1:two 1=2:=by decide
 have t2:two 2=4:=by decide
 have t5:two 5=32:=by decide
 have d:two 6=64:=by decide
 unfold fld;refine⟨?_, ?_, ?_⟩
 ·rw[if_pos (show May 5 1 by unfold May;decide),t5,t1]
 ·rw[if_pos (show May 6 2 by unfold May;decide),d,t2];omega
 ·rw[if_pos (show May 0 5 by unfold May;decide),t0,t5];omega
theorem Cx {N w:World} {R hi Br ag ah d G:Nat} {s:RdS} {t q:Int} {f Y af:Int} {M:Bool} (h:PrQ N w R hi Br ag ah d G s t (dC f Y M af 0 false 0) q) (aa:0<=q/\q<=255) (aq:d<G):
  Calls prog 224 #[γ G,γ d] w λe w'=>e= .returned (ι (q/64))/\PrQ N w' R hi Br ag ah d G s t (dC f Y M af 0 (bit q 32) 0) q:=by
 obtain⟨h,J⟩:=h;obtain⟨ac,ab,an⟩:=Hg aa;have U:U64 q:=by unfold U64;omega
 have ae:(q/32%2==1)=bit q 32:=by unfold bit;rw[Bool.eq_iff_iff];simp
 have am:=κ ac;have aj:=κ ab;have ak:=κ ae;have au:=β0 J;have I:=κ h;have ao:=κ J;obtain⟨aB,ay⟩:=aa;have ax:q/64<=3:=by omega
 have ar:0<=q/64:=by omega
 clear h J ac ab an ae;generalize q/64=q6 at *
 go_enter func224,ntmps224
 go_wp2_with first | (go_at_call 225;((with_reducible refine(QK q 5 1 U (by unfold May;decide) _).mono ?_);rintro e w1 ⟨rfl,H,rfl⟩;rw[am.o];have ai:=κ ((I.o.on (qa.drewN _ H)).put8 7 (μ (bit q 32)));have O:=κ (qo (qr ao.o H) ⟨d,7,none⟩ (μ (bit q 32)) (by show G≠d;omega));have az:=qb (I.o.on (qa.drewN w H)).b8 7 (v:= μ false) rfl;have aA:=qd (I.o.on (qa.drewN w H)).b8 7;have av:=ak.o;have aw:=β0 O.o)) | (go_at_call 225;((with_reducible refine(QK q 6 2 U (by unfold May;decide) _).mono ?_);rintro e w2 ⟨rfl,ad,rfl⟩;rw[aj.o];have al:=κ (ai.o.on (qa.drewN _ ad));have ap:=κ (qr O.o ad)))
 go_ret;exact⟨rfl,al.o,ap.o⟩
theorem FW {I w:World} {R hi Br M N H d:Nat} {s:RdS} {t q:Int} {cs:Array Value} (h:PrQ I w R hi Br M N H d s t cs q) (ab:0<=q/\q<=255):
  Calls prog 226 #[γ d] w λe w'=>e= .returned (ι (q%32))/\PrQ I w' R hi Br M N H d s t cs q:=by
 obtain⟨h,G⟩:=h;obtain⟨ae,aa,J⟩:=Hg ab;have Y:U64 q:=by unfold U64;omega
 have ac:=κ J;have ai:=β0 G;have af:=κ h;have ag:=κ G;have aj:q%32<=31:=by omega
 have ah:0<=q%32:=by omega
 clear h G ae aa J;generalize q%32=q5 at *
 go_enter func226,ntmps226
 go_wp2_with (go_at_call 225;((with_reducible refine(QK q 0 5 Y (by unfold May;decide) _).mono ?_);rintro e w1 ⟨rfl,O,rfl⟩;rw[ac.o];have ad:=κ (af.o.on (qa.drewN _ O));have U:=κ (qr ag.o O)))
 go_ret;exact⟨rfl,ad.o,U.o⟩
theorem Lo {J w:World} {R hi Br G H d:Nat} {s:RdS} {t f:Int} (h:PrS J w R hi Br G H d s t (dC f 0 false 0 0 false 0)) (U:0<=t/\t<=255):
  Calls prog 221 #[υ 128,.func (.func 222) #[] #[γ G,γ d],γ H] w λe w'=>e= .returned (ι (gk t s).1.1)/\PrS J w' R hi Br G H d (gk t s).2 t (dC f 0 (gk t s).1.2 0 0 false 0):=by
 have Y:=β0 h.b7;have I:=κ h;have M:=(Zw U).1;clear h;cases hb:bit t 128 with
 | false=>
  rw[hb,if_neg η] at M;have e:gk t s=((-1,false),s):=by unfold gk;rw[hb,if_neg η]
  rw[e];clear e hb
  go_enter func221,ntmps221
  go_wp2;go_ret;exact⟨rfl,I.o⟩
 | true=>
  rw[hb,if_pos rfl] at M;have e:gk t s=((CQ s,CO s),CS s):=by unfold gk CQ CS CO;rw[hb,if_pos rfl];by_cases hn:nB s<128<;>simp[hn]
  have E:=κ e;clear e hb
  go_enter func221,ntmps221
  go_wp2_with (go_at_call 222;((with_reducible refine(FK I.o).mono ?_);rintro e w1 ⟨rfl,N⟩;have O:=κ N;clear N))
  go_ret;rw[E.o];exact⟨rfl,O.o⟩
theorem Lp {J w:World} {R hi Br d G I:Nat} {s:RdS} {t:Int} {cs:Array Value} (h:PrS J w R hi Br d G I s t cs) (U:0<=t/\t<=255):
  Calls prog 221 #[υ 64,.func (.func 223) #[] #[γ d],γ G] w λe w'=>e= .returned (ι (Jl t s).1)/\PrS J w' R hi Br d G I (Jl t s).2 t cs:=by
 have Y:=β0 h.b7;have H:=κ h;have M:=(Zw U).2.1;clear h;cases hb:bit t 64 with
 | false=>
  rw[hb,if_neg η] at M;have e:Jl t s=(-1,s):=by unfold Jl;rw[hb,if_neg η]
  rw[e];clear e hb
  go_enter func221,ntmps221
  go_wp2;go_ret;exact⟨rfl,H.o⟩
 | true=>
  rw[hb,if_pos rfl] at M;have e:Jl t s=(nB s,tkS s 1):=by unfold Jl;rw[hb,if_pos rfl]
  have E:=κ e;clear e hb
  go_enter func221,ntmps221
  go_wp2_with (go_at_call 223;((with_reducible refine(FZ H.o).mono ?_);rintro e w1 ⟨rfl,N⟩;have O:=κ N;clear N))
  go_ret;rw[E.o];exact⟨rfl,O.o⟩
theorem Gg {U w:World} {R hi Br Y H d G:Nat} {s:RdS} {t q:Int} {f ab N:Int} {O:Bool} (h:PrQ U w R hi Br Y H d G s t (dC f ab O N 0 false 0) q) (ae:0<=t/\t<=255) (I:0<=q/\q<=255) (ac:d<G):
  Calls prog 221 #[υ 32,.func (.func 224) #[] #[γ G,γ d],γ H] w λe w'=>e= .returned (ι (if bit t 32 then q/64 else -1))/\PrQ U w' R hi Br Y H d G s t (dC f ab O N 0 (bit t 32&&bit q 32) 0) q:=by
 have ag:=β0 h.1.b7;have J:=κ h;have aa:=(Zw ae).2.2.1;have af:=κ I;clear h I;cases hb:bit t 32 with
 | false=>
  rw[hb,if_neg η] at aa;rw[if_neg η,Bool.false_and];clear hb
  go_enter func221,ntmps221
  go_wp2;go_ret;exact⟨rfl,J.o⟩
 | true=>
  rw[hb,if_pos rfl] at aa;rw[if_pos rfl,Bool.true_and];clear hb
  go_enter func221,ntmps221
  go_wp2_with (go_at_call 224;((with_reducible refine(Cx J.o af.o ac).mono ?_);rintro e w1 ⟨rfl,M⟩;have ad:=κ M;clear M))
  go_ret;exact⟨rfl,ad.o⟩
theorem Ao {N w:World} {R hi Br O G M d:Nat} {s:RdS} {t q:Int} {cs:Array Value} (h:PrQ N w R hi Br O G M d s t cs q) (aa:0<=t/\t<=255) (H:0<=q/\q<=255):
  Calls prog 221 #[υ 16,.func (.func 226) #[] #[γ d],γ G] w λe w'=>e= .returned (ι (if bit t 16 then q%32 else -1))/\PrQ N w' R hi Br O G M d s t cs q:=by
 have ac:=β0 h.1.b7;have I:=κ h;have U:=(Zw aa).2.2.2.1;have ab:=κ H;clear h H;cases hb:bit t 16 with
 | false=>
  rw[hb,if_neg η] at U;rw[if_neg η];clear hb
  go_enter func221,ntmps221
  go_wp2;go_ret;exact⟨rfl,I.o⟩
 | true=>
  rw[hb,if_pos rfl] at U;rw[if_pos rfl];clear hb
  go_enter func221,ntmps221
  go_wp2_with (go_at_call 226;((with_reducible refine(FW I.o ab.o).mono ?_);rintro e w1 ⟨rfl,J⟩;have Y:=κ J;clear J))
  go_ret;exact⟨rfl,Y.o⟩
end
section
open Go.RowKit
theorem PrS.begin {w w2:World} {b:List Int} {R:Nat} {Z:Array Value} (H:Z= #[μ false,false,υ 0,ι 0,false,ι 0,ι 0,false,ι 0]) (I:(w.alloc (.cells Z 329)).heap.size<=R)
  (r:qu w2 R b 0 (λg=>(w.alloc (.cells Z 329)).heap.size<=g/\g<w2.heap.size)) (m:qa (w.alloc (.cells Z 329)) w2):
  qu w2 R b 0 (λg=>g<w2.heap.size)/\qa w w2/\w2.heap[w.heap.size]? =some (.cells Z 329 (0,0))/\w.heap.size<R/\R<w2.heap.size:=by
 have d:R<w2.heap.size:=by obtain⟨v,G,_⟩:=r.blk;exact qn G
 have J:(w.alloc (.cells Z 329)).heap.size=w.heap.size+1:=by simp
 exact⟨r.mono λg h=>h.2,(qa.alloc _ _).trans m,qc m (qj w _),τ,d⟩
structure PrP (w0 w:World) (R hi Br B5 B7:Nat) (s:RdS) (t:Int):Prop where
 rd:qu w R s.1 s.2 (λg=>g<hi)
 more:qa w0 w
 br:w.heap[Br]? =some (.cells #[.bool false,.bool false,.int .u8 0,.int .i64 0,.bool false,.int .i64 0,.int .i64 0,.bool false,.int .i64 0] 329 (0,0))
 b5:w.heap[B5]? =some (.cells #[.pointer (some ⟨R,0,none⟩)] 137 (0,0))
 b7:w.heap[B7]? =some (.cells #[.int .u8 t] 5 (0,0))
 n0:w0.heap.size<=Br
 nR:Br<R
 n1:R<hi
 n5:hi<=B5
 n7:B5<B7
theorem PrP.step {H w w':World} {R hi Br d G:Nat} {s s':RdS} {t:Int} (h:PrP H w R hi Br d G s t) (r:qu w' R s'.1 s'.2 (λg=>g<hi)) (a:qg (λb=>b=R) w w'):PrP H w' R hi Br d G s' t:=by
 have:=h.n0;have:=h.nR;have:=h.n1;have:=h.n5;have:=h.n7;exact⟨r,qg.to_more h.more a (λk I=>by omega),a.blk h.br τ,a.blk h.b5 τ,a.blk h.b7 τ,h.n0,h.nR,h.n1,h.n5,h.n7⟩
theorem PrP.put7 {H w:World} {R hi Br G d:Nat} {s:RdS} {t:Int} (h:PrP H w R hi Br G d s t) (t':Int):PrP H (w.setCell ⟨d,0,none⟩ (υ t')) R hi Br G d s t':=by
 have:=h.n0;have:=h.nR;have:=h.n1;have:=h.n5;have:=h.n7;have a:qg (λb=>b=d) w (w.setCell ⟨d,0,none⟩ (υ t')):=(qg.refl (λb=>b=d) w).set (p:=⟨d,0,none⟩) rfl _;exact⟨h.rd.off a τ (λg I e=>by omega),h.more.st (p:=⟨d,0,none⟩) (by show _<=d;omega) _,a.blk h.br τ,a.blk h.b5 τ,qB (qp h.b7 0 _) rfl,h.n0,h.nR,h.n1,h.n5,h.n7⟩
theorem PrP.box {H w:World} {R hi Br d G:Nat} {s:RdS} {t:Int} (h:PrP H w R hi Br d G s t) (cs:Array Value):PrS H (w.alloc (.cells cs 329)) R hi Br d G w.heap.size s t cs:=
 ⟨h.rd.more (qa.alloc _ _),h.more.al _,qs h.br _,qs h.b5 _,qs h.b7 _,qj w _,h.n0,h.nR,h.n1,h.n5,h.n7,qn h.b7⟩
theorem PrP.make {w w2 d:World} {b:List Int} {R Br:Nat} (M:qu w2 R b 0 (λg=>g<w2.heap.size)) (m:qa w w2) (H:w2.heap[Br]? =some (.cells #[μ false,false,υ 0,ι 0,false,ι 0,ι 0,false,ι 0] 329 (0,0))) (J:w.heap.size<=Br) (I:Br<R) (n2:R<w2.heap.size)
  {s':RdS} (r:qu d R s'.1 s'.2 (λg=>g<w2.heap.size)) (a:qg (λb=>b=R) (w2.alloc (.cells #[γ R] 137)) d):
  PrP w (d.alloc (.cells #[υ 0] 5)) R w2.heap.size Br w2.heap.size d.heap.size s' 0:=by
 have G:d.heap[w2.heap.size]? =_:=a.blk (qj w2 _) τ;refine⟨r.more (qa.alloc _ _),(qg.to_more (m.al _) a (λk N=> ?_)).al _,qs (a.blk (qs H _) τ) _,qs G _,qj _ _,J,I,n2,Nat.le_refl _,qn G⟩;omega
theorem PrQ.mk {G w:World} {R hi Br I J d H:Nat} {s:RdS} {t q:Int} {cs:Array Value} (h:PrS G w R hi Br I J d s t cs) (k:w.heap[H]? =some (.cells #[ψ q] 190 (0,0))):PrQ G w R hi Br I J d H s t cs q:=⟨h,k⟩
theorem qa.st9 {G w:World} (m:qa G w) (B:Nat) (d:G.heap.size<=B) (v0 v1 v2 v3 v4 v5 v6 v7 v8:Value):
  qa G (((((((((w.setCell ⟨B,0,none⟩ v0).setCell ⟨B,1,none⟩ v1).setCell ⟨B,2,none⟩ v2).setCell ⟨B,3,none⟩ v3).setCell ⟨B,4,none⟩ v4).setCell ⟨B,5,none⟩ v5).setCell ⟨B,6,none⟩ v6).setCell ⟨B,7,none⟩ v7).setCell ⟨B,8,none⟩ v8):=
 ((((((((m.st (p:=⟨B,0,none⟩) d v0).st (p:=⟨B,1,none⟩) d v1).st (p:=⟨B,2,none⟩) d v2).st (p:=⟨B,3,none⟩) d v3).st (p:=⟨B,4,none⟩) d v4).st (p:=⟨B,5,none⟩) d v5).st (p:=⟨B,6,none⟩) d v6).st (p:=⟨B,7,none⟩) d v7).st (p:=⟨B,8,none⟩) d v8
theorem PrS.put10 {H w:World} {R hi Br I J G d:Nat} {s:RdS} {t:Int} {cs:Array Value} (h:PrS H w R hi Br I J G s t cs) (M:G<d) {v:Value}:PrS H (w.setCell ⟨d,0,none⟩ v) R hi Br I J G s t cs:=by
 have:=h.n0;have:=h.nR;have:=h.n1;have:=h.n5;have:=h.n7;have:=h.n8;have a:qg (λb=>b=d) w (w.setCell ⟨d,0,none⟩ v):=(qg.refl (λb=>b=d) w).set (p:=⟨d,0,none⟩) rfl _;exact⟨h.rd.off a τ (λg N e=>by omega),h.more.st (p:=⟨d,0,none⟩) (by show _<=d;omega) _,a.blk h.br τ,a.blk h.b5 τ,a.blk h.b7 τ,a.blk h.b8 τ,h.n0,h.nR,h.n1,h.n5,h.n7,h.n8⟩
theorem kz (v:Value) (b:List Int) (w:World) (aX:SlI .u8 w v b) (aG:Byt b) (bU:b.length<=1000000):
  Calls prog 181 #[v] w λe w'=>e= .returned (.tuple #[θ #[μ (qW b).1.lo,μ (qW b).1.st,υ (qW b).1.pt,ι (qW b).1.pic,μ (qW b).1.wd,ι (qW b).1.bs,ι (qW b).1.tr,μ (qW b).1.sy,ι (qW b).1.ky],ι (qW b).2.1,ι (qW b).2.2])/\qa w w':=by
 have bn:=κ (aX.keep (qa.alloc w (.cells #[μ false,false,υ 0,ι 0,false,ι 0,ι 0,false,ι 0] 329)));have am:0<=nB (b,0)/\nB (b,0)<=255:=Zt (s:=(b,0)) aG;obtain⟨cq,co,rfl,aQ⟩:=aX;clear aQ;have bQ:=(JW am).1;have cr:=(JW am).2.2.1;have cx:=(JW am).2.2.2;have cn:=(Zw am).2.2.2.2.1;have ai:num (tkB b 1)=nB (b,0):=rfl;have ao:=κ ai;clear ai;generalize bv:nB (b,0)=f at *;have ap:=κ bv;clear bv
 go_enter func181,ntmps181
 go_upto_if 18 with (first | (go_at_call 53;(go_call km _ b _ bn.o aG bU as e w2 ⟨R,rfl,aZ,bB,bh⟩;obtain⟨bi,be,bD,n1,n2⟩:=PrS.begin rfl aZ bB bh;have au:=κ bi;have bZ:=κ be;have bm:=κ bD;clear bB bh bi be bD aZ;have aI:=β0 (qj w2 (.cells #[γ R] 137)))) | (go_at_call 54;(go_call jT (au.o.more (qa.alloc _ _)) as e cl ⟨rfl,bt,a3⟩;rw[ao.o];have ab:=κ (PrP.make au.o bZ.o bm.o (Nat.le_refl _) n1 n2 (s':=tkS (b,0) 1) bt a3);clear bt a3)))
 generalize w2.heap.size=hi at *;generalize cl.heap.size=B7 at *;have ce:=β0 ab.o.b5;have aw:=β0 ab.o.b7;have bw:0<=(zd (b,0)).2.1/\(zd (b,0)).2.1<=255:=by
  unfold zd;split
  ·exact Zt (s:=tkS (b,0) 1) (aG.drop _)
  ·exact⟨η,η⟩
 have aa:=κ bw;clear bw
 go_cut [] from 18 (λaN=>PrP w aN R hi w.heap.size hi B7 (zd (b,0)).2.2 (zd (b,0)).2.1)
 case first=>
  cases hbt:bit f 128 with
  | false=>
   have e:zd (b,0)=(f,0,tkS (b,0) 1):=by unfold zd;rw[ap.o,hbt,if_neg η]
   have N:=κ e;clear e;go_wp2;go_meet;rw[N.o];exact ab.o
  | true=>
   have e:zd (b,0)=(f,nB (tkS (b,0) 1),tkS (tkS (b,0) 1) 1):=by unfold zd;rw[ap.o,hbt,if_pos rfl]
   have N:=κ e;clear e
   go_wp2_with (go_at_call 54;(go_call jT ab.o.rd as e w4 ⟨rfl,an,a4⟩;have bN:=κ ((ab.o.step (s':=tkS (tkS (b,0) 1) 1) an a4).put7 (nB (tkS (b,0) 1)));have bz:=qd (ab.o.step (s':=tkS (tkS (b,0) 1) 1) an a4).b7 0;have cy:=qb (ab.o.step (s':=tkS (tkS (b,0) 1) 1) an a4).b7 0 (v:= υ 0) rfl;clear an a4))
   go_meet;rw[N.o];exact bN.o
 case rest=>
  have bc:(zd (b,0)).1=f:=by rw[<-ap.o];unfold zd;split<;>rfl
  have O:qW b=DE b.length (Zs (zd (b,0)).1 (zd (b,0)).2.1 (zd (b,0)).2.2):=rfl;rw[bc] at O;have bp:=κ hcut;have bb:=κ O;clear hcut O bc ab au bm aI ce aw ao ap bn;generalize (zd (b,0)).2.1=t at *;generalize (zd (b,0)).2.2=s at *;obtain⟨t0,t1⟩:=aa.o;have ac:=(Zw aa.o).2.2.2.2.2;have bx:=κ ac;clear ac bQ;have ba:Hid (PrS w (wc.alloc (.cells #[μ (bit f 32),(bit f 16),υ (f%8),ι 0,false,ι 0,ι 0,false,ι 0] 329)) R hi w.heap.size hi B7 wc.heap.size s t (dC f 0 false 0 0 false 0)):=κ (bp.o.box _);generalize bA:gk t s=P at *;generalize bu:Jl t P.2=Q at *;generalize aY:QP t Q.2=Bo at *;have bd:=κ bA;have bq:=κ bu;have al:=κ aY;clear bA bu aY;obtain⟨⟨pic,wd⟩,s1⟩:=P;obtain⟨bs,s2⟩:=Q;obtain⟨q,H⟩:=Bo
  have bI:Hid (Byt s2.1->0<=q/\q<=255):=κ (λcg=>by
   have e:=al.o;unfold QP at e;split at e
   ·cases e;exact Zt cg
   ·cases e;exact⟨ζ,ζ⟩)
  go_upto_if 41 with (first | (go_at_call 221;((with_reducible refine(Lo ba.o aa.o).mono ?_);rintro e w5 ⟨rfl,ak⟩;rw[bd.o] at ak ⊢;have bg:Hid (PrS w (w5.setCell ⟨wc.heap.size,3,none⟩ (ι pic)) R hi w.heap.size hi B7 wc.heap.size s1 t (dC f pic wd 0 0 false 0)):=κ (ak.put8 3 (ι pic));have bW:=β3 ak.b8;have z3:=qd ak.b8 3;clear ak)) | (go_at_call 221;((with_reducible refine(Lp bg.o aa.o).mono ?_);rintro e w6 ⟨rfl,ag⟩;rw[bq.o] at ag ⊢;have aq:Hid (PrS w (w6.setCell ⟨wc.heap.size,5,none⟩ (ι bs)) R hi w.heap.size hi B7 wc.heap.size s2 t (dC f pic wd bs 0 false 0)):=κ (ag.put8 5 (ι bs));have bS:=β5 ag.b8;have z5:=qd ag.b8 5;have G:=κ (aq.o.on (qa.alloc _ (.cells #[ψ 0] 190)));have aw:=β0 G.o.b7;clear ag bW z3)))
  have ad:=κ (qj (w6.setCell ⟨wc.heap.size,5,none⟩ (ι bs)) (.cells #[ψ 0] 190));have bE:=bI.o aq.o.rd.byt;have af:=κ bE;have ar:wc.heap.size<(w6.setCell ⟨wc.heap.size,5,none⟩ (ι bs)).heap.size:=qn aq.o.b8;clear bE;generalize (w6.setCell ⟨wc.heap.size,5,none⟩ (ι bs)).alloc (.cells #[ψ 0] 190)=W7 at *;have bo:(w6.setCell ⟨wc.heap.size,5,none⟩ (ι bs)).heap.size=w6.heap.size:=by simp
  rw[bo] at ad ar;generalize w6.heap.size=N10 at *;generalize wc.heap.size=B8 at *;clear ba bg aq bS z5 bo bp;have aI:=β0 G.o.b5
  go_cut [] from 41 (λaN=>PrQ w aN R hi w.heap.size hi B7 B8 N10 H t (dC f pic wd bs 0 false 0) q)
  case first=>
   cases hbt:(bit t 32||bit t 16) with
   | false=>
    have e:=al.o;unfold QP at e;rw[hbt,if_neg η] at e;have ac:=bx.o;rw[hbt] at ac;have N:Hid (0=q/\s2=H):=κ (by cases e;exact⟨rfl,rfl⟩);clear e hbt;go_wp2;go_meet;rw[<-N.o.1,<-N.o.2];exact⟨G.o,ad.o⟩
   | true=>
    have e:=al.o;unfold QP at e;rw[hbt,if_pos rfl] at e;have ac:=bx.o;rw[hbt] at ac;have N:Hid (nB s2=q/\tkS s2 1=H):=κ (by cases e;exact⟨rfl,rfl⟩);have ai:num (tkB s2.1 1)=q:=N.o.1;have ao:=κ ai;obtain⟨ct,cw⟩:=af.o;clear e hbt ai
    go_wp2_with (go_at_call 54;(go_call jT G.o.rd as e w8 ⟨rfl,bC,U⟩;rw[ao.o];have ae:=κ (G.o.step (s':=tkS s2 1) bC U);have bM:=κ (U.blk ad.o (by have:=G.o.n1;have:=G.o.n5;have:=G.o.n7;have:=G.o.n8;omega));have cu:=qd (U.blk ad.o (by have:=G.o.n1;have:=G.o.n5;have:=G.o.n7;have:=G.o.n8;omega)) 0;have cv:=β0 (U.blk ad.o (by have:=G.o.n1;have:=G.o.n5;have:=G.o.n7;have:=G.o.n8;omega));clear bC U))
    go_meet;rw[<-N.o.2];exact⟨ae.o.put10 ar,qB (qp bM.o 0 _) rfl⟩
  case rest=>
   have ae:=κ hcut;clear hcut aI aw ad G;have bj:Zs f t s=(mkD f t (pic,wd) bs q,H):=by unfold Zs;rw[bd.o];simp only[bq.o,al.o]
   have aW:=κ bj;clear bj;obtain⟨I,bl⟩: ∃I,I=(if bit t 32 then q/64 else -1):=⟨_,rfl⟩;obtain⟨Y,bf⟩: ∃Y,Y=(if bit t 16 then q%32 else -1):=⟨_,rfl⟩;have aR:=κ bl;have az:=κ bf;clear bl bf;obtain⟨aL,aj⟩:=ν ((if ¬H.2=0 then H.2 else if 0<H.1.length then 4 else 0));have bk:=κ aj;have aQ:=ae.o.1.rd.small;by_cases he:H.2=3
   ·have bR:aL=3:=by rw[<-aj,he];rfl
    have O:qW b=(ds0,0,3):=by rw[bb.o,aW.o];unfold DE;rw[if_pos he]
    subst bR;have N:=κ O;clear he aj O aQ
    go_wp2_with first | (go_at_call 221;((with_reducible refine(Gg ae.o aa.o af.o ar).mono ?_);rintro e w9 ⟨rfl,M⟩;rw[<-aR.o];obtain⟨M,ah⟩:=M;have av:Hid (PrS w (w9.setCell ⟨B8,6,none⟩ (ι I)) R hi w.heap.size hi B7 B8 H t (dC f pic wd bs I (bit t 32&&bit q 32) 0)):=κ (M.put8 6 (ι I));have aV:=κ (qo ah ⟨B8,6,none⟩ (ι I) (by show N10≠B8;omega));have aB:=β6 M.b8;have aT:=qd M.b8 6;clear M ah)) | (go_at_call 221;((with_reducible refine(Ao (PrQ.mk av.o aV.o) aa.o af.o).mono ?_);rintro e w10 ⟨rfl,J⟩;rw[<-az.o];obtain⟨J,aE⟩:=J;have d:Hid (PrS w (w10.setCell ⟨B8,8,none⟩ (ι Y)) R hi w.heap.size hi B7 B8 H t (dC f pic wd bs I (bit t 32&&bit q 32) Y)):=κ (J.put8 8 (ι Y));have bT:=β8 J.b8;have bz:=qd J.b8 8;have bG:=β0 d.o.b5;clear J aE aB aT)) | (go_at_call 59;(go_call zn d.o.rd as e bV ⟨rfl,rfl⟩)) | (go_at_call 61;(go_call yT d.o.rd as e cb ⟨rfl,rfl⟩;rw[bk.o];have aF:=β0 d.o.br;have cf:=qd d.o.br 0;have aD:=β1 d.o.br;have bO:=qd d.o.br 1;have aK:=β2 d.o.br;have bH:=qd d.o.br 2;have aU:=β3 d.o.br;have bX:=qd d.o.br 3;have aS:=β4 d.o.br;have bY:=qd d.o.br 4;have aP:=β5 d.o.br;have bP:=qd d.o.br 5;have aC:=β6 d.o.br;have cj:=qd d.o.br 6;have ay:=β7 d.o.br;have bL:=qd d.o.br 7;have aJ:=β8 d.o.br;have ch:=qd d.o.br 8;have ci:=β0 d.o.b8;have cd:=β1 d.o.b8;have bJ:=β2 d.o.b8;have ca:=β3 d.o.b8;have bF:=β4 d.o.b8;have ck:=β5 d.o.b8;have bK:=β6 d.o.b8;have cm:=β7 d.o.b8;have cc:=β8 d.o.b8))
    (refine bodyPost_ret (v:= .tuple #[θ #[μ false,false,υ 0,ι 0,false,ι 0,ι 0,false,ι 0],ι 0,ι 3]) ?rr1 rfl ?_;(case rr1=>(simp[results,results181,go_sem,aF,aD,aK,aU,aS,aP,aC,ay,aJ])))
    have ax:=κ (λa0 aO aH a3 a4 a5 aA aM U=>qa.st9 d.o.more w.heap.size (Nat.le_refl _) a0 aO aH a3 a4 a5 aA aM U);refine⟨by rw[N.o];rfl, ?_⟩;exact ax.o _ _ _ _ _ _ _ _ _
   ·have cp:(aL==3)=false:=by
     have: ¬aL=3:=by
      rw[<-aj];split
      ·exact he
      ·split<;>decide
     simpa using this
    have O:qW b=(mkD f t (pic,wd) bs q,(b.length:Int)-H.1.length,0):=by rw[bb.o,aW.o];unfold DE;rw[if_neg he]
    have N:=κ O;clear he aj O
    go_wp2_with first | (go_at_call 221;((with_reducible refine(Gg ae.o aa.o af.o ar).mono ?_);rintro e w9 ⟨rfl,M⟩;rw[<-aR.o];obtain⟨M,ah⟩:=M;have av:Hid (PrS w (w9.setCell ⟨B8,6,none⟩ (ι I)) R hi w.heap.size hi B7 B8 H t (dC f pic wd bs I (bit t 32&&bit q 32) 0)):=κ (M.put8 6 (ι I));have aV:=κ (qo ah ⟨B8,6,none⟩ (ι I) (by show N10≠B8;omega));have aB:=β6 M.b8;have aT:=qd M.b8 6;clear M ah)) | (go_at_call 221;((with_reducible refine(Ao (PrQ.mk av.o aV.o) aa.o af.o).mono ?_);rintro e w10 ⟨rfl,J⟩;rw[<-az.o];obtain⟨J,aE⟩:=J;have d:Hid (PrS w (w10.setCell ⟨B8,8,none⟩ (ι Y)) R hi w.heap.size hi B7 B8 H t (dC f pic wd bs I (bit t 32&&bit q 32) Y)):=κ (J.put8 8 (ι Y));have bT:=β8 J.b8;have bz:=qd J.b8 8;have bG:=β0 d.o.b5;clear J aE aB aT)) | (go_at_call 59;(go_call zn d.o.rd as e bV ⟨rfl,rfl⟩)) | (go_at_call 61;(go_call yT d.o.rd as e cb ⟨rfl,rfl⟩;rw[bk.o];have aF:=β0 d.o.br;have cf:=qd d.o.br 0;have aD:=β1 d.o.br;have bO:=qd d.o.br 1;have aK:=β2 d.o.br;have bH:=qd d.o.br 2;have aU:=β3 d.o.br;have bX:=qd d.o.br 3;have aS:=β4 d.o.br;have bY:=qd d.o.br 4;have aP:=β5 d.o.br;have bP:=qd d.o.br 5;have aC:=β6 d.o.br;have cj:=qd d.o.br 6;have ay:=β7 d.o.br;have bL:=qd d.o.br 7;have aJ:=β8 d.o.br;have ch:=qd d.o.br 8;have ci:=β0 d.o.b8;have cd:=β1 d.o.b8;have bJ:=β2 d.o.b8;have ca:=β3 d.o.b8;have bF:=β4 d.o.b8;have ck:=β5 d.o.b8;have bK:=β6 d.o.b8;have cm:=β7 d.o.b8;have cc:=β8 d.o.b8))
    (refine bodyPost_ret (v:= .tuple #[θ #[μ (bit f 32),(bit f 16),υ (f%8),ι pic,wd,ι bs,ι I,(bit t 32&&bit q 32),ι Y],ι ((b.length:Int)-H.1.length),ι 0]) ?rr2 rfl ?_;(case rr2=>(simp[results,results181,go_sem,aF,aD,aK,aU,aS,aP,aC,ay,aJ])))
    have ax:=κ (λa0 aO aH a3 a4 a5 aA aM U=>qa.st9 d.o.more w.heap.size (Nat.le_refl _) a0 aO aH a3 a4 a5 aA aM U);refine⟨by rw[N.o,aR.o,az.o];rfl, ?_⟩;exact ax.o _ _ _ _ _ _ _ _ _
end
end Go.Proofs.YtdgippmmaponfaaGreat
