/- Contracts of the functions that the law reaches, and plain laws; no conditions but those written at each. -/
import Derived.Test.YtdgippmmaponfaaGreatMg5
import Derived.KernelRfl
namespace Go.Proofs.YtdgippmmaponfaaGreat
open Go.Value renaming bool->μ,slice->δ,pointer->π,agg->θ
open Go.IntKind renaming i64->ι,u8->υ,u16->φ,u32->ω,i32->χ,u64->ψ
open _root_.Go.Proofs.Tryz
set_option linter.unusedSimpArgs false
set_option maxHeartbeats 8000000
set_option linter.unusedVariables false
open Go.RowKit
set_option maxRecDepth 100000
section
variable {N:Nat->Prop} {w w':World} {k:LnB} {vo:Value} {s s':LnS}
theorem Pv {t:TypeId} (h:w.heap[k.L]? =some (.cells (jQ k vo s) t (0,0))):w.rangeAt k.L 7 [ω s.rw.src,φ s.rw.sq,ω s.rw.st,s.rw.any,ω s.rw.last,ω s.rw.shift]:=λj v d=>by
 match j,d with
 | 0,d=>exact qb h 7 d
 | 1,d=>exact qb h 8 d
 | 2,d=>exact qb h 9 d
 | 3,d=>exact qb h 10 d
 | 4,d=>exact qb h 11 d
 | 5,d=>exact qb h 12 d
theorem Zm {P:Program} {C:World->Prop} {o:Oper} {a:Act} {w:World} {K:Act->World->Prop} (d:TypeId) (x:Operand) (I:o.op= .load d x) (b G:Nat) (N:a.eval x= π (some ⟨b,G,none⟩)) (cs:List Value) (H:TypeDesc) (M:w.rangeAt b G cs)
  (O:P.underlying d=some H) (J:H.isRow=true) (hi:(P.info? d).map (·.size)=some cs.length) (h:C w/\K (a.put o.dst (θ cs.toArray)) w):jn P C o a w K:=by
 unfold jn execOp;simp only[I,N,Instr.loadAt,Instr.sureAddr,Sem.run_bind,Sem.run_pure,Result.andThen_ok,run_loadVar_mid w b G d cs H M O J hi];exact h
theorem Zj (h:LnX N w k vo s) (G:vC s 2=false):Calls prog 143 #[γ k.L] w λe w'=>e= .returned (.tuple #[ι 0,false,false])/\qa w w':=by
 have d:=Yz h;rw[G] at d;have d:=κ d;clear G h
 go_enter func143,ntmps143
 go_wp2_with (go_at_call 64;(go_call d.o as e w1 ⟨rfl,H⟩;have I:=κ H;clear H))
 refine bodyPost_ret (v:= .tuple #[ι 0,false,false]) (by simp[results,results143,go_sem]) rfl ?_;exact⟨rfl,I.o⟩
theorem XQ (h:LnX N w k vo s) (x:ItS) (ac:Bool) (T:List (ItS×Bool)) (ck:s.B=(x,ac)::T) (X Z Q:Int) (bE:shL s.rw x.pk.st ac=X) (aV:(x.pk.st+X)%4294967296=Z) (bl:(s.rw.sq+1)%65536=Q):
  Calls prog 143 #[γ k.L] w λe w'=>e= .returned (.tuple #[ι (if s.C.length<s.room then 0 else (s.C.head?.map (·.1)).getD 0),(decide (¬s.C.length<s.room)),true])/\
   LnX (xf N w w') w' k vo {s with B:=T,rw:=⟨s.rw.src,Q,s.rw.st,true,Z,X⟩,C:=if s.C.length<s.room then s.C++[(x.id,pkB {x.pk with sq:=s.rw.sq,st:=Z,sc:=s.rw.src})] else s.C.tail++[(x.id,pkB {x.pk with sq:=s.rw.sq,st:=Z,sc:=s.rw.src})]}/\qg N w w':=by
 have U:=κ h;have aC:=Yz h;have bI:vC s 2=true:=by
  show decide (0<s.B.length)=true;rw[ck];simp
 rw[bI] at aC;have aC:=κ aC;have cB:=κ (λ(mr:Bool) (ty q so:Int) (w:World)=>AI s.rw.src s.rw.sq s.rw.st s.rw.last s.rw.shift s.rw.any ac mr ty q x.pk.st so w X bE Z aV Q bl);have cZ:U32 Z:=by rw[<-aV];exact⟨τ,τ⟩
 have cS:U16 Q:=by rw[<-bl];exact⟨τ,τ⟩
 obtain⟨aJ,dy,bR,cC,bx,bB,cQ,au,bp⟩:=h.r2;rw[ck] at bp;obtain⟨c,q,rfl,aK,bK⟩:=bp.uncons;have AQ:=κ bK;obtain⟨dC,dA,vp,rfl,⟨⟨os,I,rfl,_⟩,⟨H,ke,rfl,_⟩,⟨M,J,rfl,_⟩⟩,Y,bZ⟩:=aK.read;have aM: ∀w',qg (lnE N k vo) w w'->PkS w' (δ os x.pk.ss.length I) (δ H x.pk.ex.length ke) (δ M x.pk.pl.length J) x.pk:=λw' a=>by
  obtain⟨dF,dv,vp',e,ci,_⟩:=aK w' a;simp[itC] at e;obtain⟨aw,aH,aE⟩:=e;rw[<-aw,<-aH,<-aE] at ci;exact ci
 have bb:uf {x.pk with sq:=s.rw.sq,st:=Z,sc:=s.rw.src}:=⟨Y.ty,h.ok.sq,cZ,h.ok.src,Y.ss,Y.pr,Y.ex,Y.pl⟩;have bw:jJ {x.pk with sq:=s.rw.sq,st:=Z,sc:=s.rw.src}=true:=bZ;have cu:Hid (∀w',qg (lnE N k vo) w w'->Calls prog 13 #[θ #[μ x.pk.mr,υ x.pk.ty,φ s.rw.sq,ω Z,ω s.rw.src,δ os x.pk.ss.length I,x.pk.has,φ x.pk.pr,δ H x.pk.ex.length ke,δ M x.pk.pl.length J]] w' λe w''=>(∃v,e= .returned (.tuple #[v,ι 0])/\w''.ownsRow w'.heap.size 5 1 v (pkB {x.pk with sq:=s.rw.sq,st:=Z,sc:=s.rw.src}).length ((pkB {x.pk with sq:=s.rw.sq,st:=Z,sc:=s.rw.src}).map (Value.int .u8)))/\qa w' w''):=
  κ λw' a=>gi {x.pk with sq:=s.rw.sq,st:=Z,sc:=s.rw.src} _ _ _ w' ⟨(aM w' a).s,(aM w' a).e,(aM w' a).l⟩ bb bw
 have bu:Hid ((pkB {x.pk with sq:=s.rw.sq,st:=Z,sc:=s.rw.src}).length<=200/\Byt (pkB {x.pk with sq:=s.rw.sq,st:=Z,sc:=s.rw.src})):=κ ⟨by
  have cz:=Ey {x.pk with sq:=s.rw.sq,st:=Z,sc:=s.rw.src};have cP:=((yq _).1 bw).2.2.2.2
  omega,Iy bb⟩
 clear aM Y bb bZ bw bE aV bl;generalize pkB {x.pk with sq:=s.rw.sq,st:=Z,sc:=s.rw.src}=body at *;obtain⟨dh,aS⟩:=ν ((if s.C.length<s.room then 0 else (s.C.head?.map (·.1)).getD 0));obtain⟨cw,aR⟩:=ν (decide (¬s.C.length<s.room));obtain⟨dp,bs⟩:=ν ((if s.C.length<s.room then s.C++[(x.id,body)] else s.C.tail++[(x.id,body)]));rw[aS,aR,bs];have cx:=κ aS;have cy:=κ aR;have di:=κ bs;clear aS aR bs;simp only[itC,List.cons_append,List.nil_append] at aK au;have da:=κ au;have dm:k.R2<w.heap.size:=qn au.ring;have dn:k.A2<w.heap.size:=qn au.row;have ag:=κ h.dist;clear h bI au aK bK bp
 go_enter func143,ntmps143
 go_wp2_with (first | (go_at_call 64;(go_call aC.o as e w1 ⟨rfl,ay⟩;have cD:=κ ay;have bS:=κ (qc ay U.o.blk);have ds:Hid (w.heap.size<=w1.heap.size):=κ ay.size;have cY:=κ (da.o.more ay);clear ay;have c2:w1.cell? ⟨k.L,2,none⟩=some (π (some ⟨k.R2,0,none⟩)):=qb bS.o 2 rfl)) | (go_at_call 186;(go_call Nc w1 k.R2 k.A2 s.room aJ _ q bR cC bx bB cQ cY.o as e w2 ⟨rfl,⟨cU,bU⟩,bh⟩;have cN:=κ bU;have A2:Hid (qg (RgB k.R2 k.A2) w w2):=κ ((qg.of_more cD.o).trans bh);have aW:Hid (w2.heap[k.L]? =some (.cells (jQ k vo s) 184 (0,0))):=κ (bh.blk bS.o (by obtain⟨⟨ah,ak,af,ad,_⟩,_⟩:=ag.o;rintro(e | e)<;>omega));clear bU bh)))
 obtain⟨ab,az⟩:=ν ((w2.alloc (.cells (Γk x os I H ke M J ac) 220)).alloc (.cells (Γh x.pk os I H ke M J) 55));have bi:Hid (qa w2 ab):=κ (by rw[<-az];exact(qa.alloc _ _).al _);have aZ:Hid (ab.heap[w2.heap.size]? =some (.cells (Γk x os I H ke M J ac) 220 (0,0))):=κ (by rw[<-az];exact qs (qj w2 _) _);have bk:Hid (ab.heap[w2.heap.size+1]? =some (.cells (Γh x.pk os I H ke M J) 55 (0,0))):=κ (by rw[<-az];exact qC η);have bt:=κ (qc bi.o aW.o);rw[az];clear az;have bH: ¬w2.heap.size=k.L:=by have:=qn aW.o;omega
 have aX: ¬w2.heap.size+1=k.L:=by have:=qn aW.o;omega
 have bF: ∀y:qz (λb=>b=k.L) ab,y.w'.rangeAt (w2.heap.size+1) 0 [μ x.pk.mr,υ x.pk.ty,φ x.pk.sq,ω x.pk.st,ω x.pk.sc]:=λy=>by
  have:=xy (cs:=(Γh x.pk os I H ke M J)) (y.h.blk bk.o aX);intro j v an;refine this j v ?_;have cV:=(List.getElem?_eq_some_iff.1 an).1;rw[<-an];exact List.getElem?_append_left (l₁:=[μ x.pk.mr,υ x.pk.ty,φ x.pk.sq,ω x.pk.st,ω x.pk.sc]) (l₂:=[δ os x.pk.ss.length I,x.pk.has,φ x.pk.pr,δ H x.pk.ex.length ke,δ M x.pk.pl.length J]) cV
 have cF: ∀y:qz (λb=>b=k.L) ab,y.w'.cell? ⟨w2.heap.size,13,none⟩=some (μ ac):=λy=>qb (y.h.blk aZ.o bH) 13 rfl
 refine zp (λb=>b=k.L) ab 17 [(0,false),(1,false),(2,false),(3,false),(5,false),(6,false),(7,false),(8,false),(4,true),(9,true),(10,false),(11,false),(12,false),(13,false),(14,false),(15,true),(16,false),(17,true)] ξ ξ ?_
 iterate 5 (refine qE rfl rfl (qi σ) ?_;intro K d;go_big_quiet_op;go_big_quiet_on)
 refine jh rfl rfl (qi σ) 52 (.tmp 33) rfl (w2.heap.size+1) 0 rfl [μ x.pk.mr,υ x.pk.ty,φ x.pk.sq,ω x.pk.st,ω x.pk.sc] _ (λw' cE=>by obtain⟨y,rfl⟩:=cE;exact bF y) underlying52 rfl ξ ?_;intro K d;go_simp;refine d _ ?_;clear d K
 refine Qs ?_
 refine jR rfl rfl ?_;intro K d;refine Zm 180 (.tmp 31) rfl k.L 7 rfl [ω s.rw.src,φ s.rw.sq,ω s.rw.st,s.rw.any,ω s.rw.last,ω s.rw.shift] _ (Pv (qr bt.o 1)) underlying180 rfl ξ ?_;refine⟨qi σ, ?_⟩;go_simp;refine d _ _ ?_;clear d K
 (refine Ql ?_;intro K d)
 go_call cB.o _ _ _ _ _ as e w5 ⟨rfl,cl⟩;have ae:Hid (qa ab w5):=κ ((qa.drewN _ 1).trans cl);clear cl;have bf:=κ (qc ae.o bt.o);have cd:=κ (qc ae.o bk.o);have bJ:=κ (qc ae.o aZ.o);refine⟨_,rfl,qi (qg.of_more ae.o),d _ _ ?_⟩;clear d K bF cF
 iterate 5 (refine qE rfl rfl (qi (qg.of_more ae.o)) ?_;intro K d;go_big_quiet_op;go_big_quiet_on)
 refine jR rfl rfl ?_;intro K d;refine zF 180 (.tmp 41) (.tmp 38) rfl k.L 7 184 _ [ω s.rw.src,φ Q,ω s.rw.st,true,ω Z,ω X] rfl rfl bf.o (by show 7+6<=16;decide) ξ (by simp[Value.oneCell']) ?_;have ao:Hid (qg (λb=>b=k.L) ab (w5.setRow k.L (xQ (jQ k vo s).toList 7 [ω s.rw.src,φ Q,ω s.rw.st,true,ω Z,ω X]).toArray)):=κ ((qg.of_more (S:=λb=>b=k.L) ae.o).row (g:=k.L) rfl _);have bo:Hid ((w5.setRow k.L (xQ (jQ k vo s).toList 7 [ω s.rw.src,φ Q,ω s.rw.st,true,ω Z,ω X]).toArray).heap[k.L]? =some (.cells (jQ k vo {s with rw:=⟨s.rw.src,Q,s.rw.st,true,Z,X⟩}) 184 (0,0))):=κ (qB (jY bf.o _) rfl);have aF:Hid ((w5.setRow k.L (xQ (jQ k vo s).toList 7 [ω s.rw.src,φ Q,ω s.rw.st,true,ω Z,ω X]).toArray).heap[w2.heap.size+1]? =some (.cells (Γh x.pk os I H ke M J) 55 (0,0))):=κ (qS cd.o _ aX);have bg:Hid ((w5.setRow k.L (xQ (jQ k vo s).toList 7 [ω s.rw.src,φ Q,ω s.rw.st,true,ω Z,ω X]).toArray).heap[w2.heap.size]? =some (.cells (Γk x os I H ke M J ac) 220 (0,0))):=κ (qS bJ.o _ bH);obtain⟨w6,ch⟩:=ν (w5.setRow k.L (xQ (jQ k vo s).toList 7 [ω s.rw.src,φ Q,ω s.rw.st,true,ω Z,ω X]).toArray);rw[ch] at ao bo aF bg ⊢;clear ch bf cd bJ ae;refine⟨qi ao.o, ?_⟩;go_simp;refine d _ _ ?_;clear d K
 iterate 1 (refine qE rfl rfl (qi ao.o) ?_;intro K d;go_big_quiet_op;go_big_quiet_on)
 refine zY rfl rfl ζ ?_;intro K d;refine zF 52 (.tmp 42) (.tmp 39) rfl (w2.heap.size+1) 0 55 _ [μ x.pk.mr,υ x.pk.ty,φ s.rw.sq,ω Z,ω s.rw.src] rfl rfl aF.o (by show 0+5<=10;decide) ξ (by simp[Value.oneCell']) ?_;have av:Hid (qg (λb=>b=k.L∨RgB k.R2 k.A2 b) w (w6.setRow (w2.heap.size+1) (xQ ((Γh x.pk os I H ke M J):Array Value).toList 0 [μ x.pk.mr,υ x.pk.ty,φ s.rw.sq,ω Z,ω s.rw.src]).toArray)):=κ ((((A2.o.mono λb G=>Or.inr G).more bi.o).trans (ao.o.mono λb G=>Or.inl G)).rowNew (by have:=A2.o.size;omega) _);have cq:Hid ((w6.setRow (w2.heap.size+1) (xQ ((Γh x.pk os I H ke M J):Array Value).toList 0 [μ x.pk.mr,υ x.pk.ty,φ s.rw.sq,ω Z,ω s.rw.src]).toArray).heap[k.L]? =some (.cells (jQ k vo {s with rw:=⟨s.rw.src,Q,s.rw.st,true,Z,X⟩}) 184 (0,0))):=κ (qS bo.o _ (λe=>aX e.symm));have bW:Hid ((w6.setRow (w2.heap.size+1) (xQ ((Γh x.pk os I H ke M J):Array Value).toList 0 [μ x.pk.mr,υ x.pk.ty,φ s.rw.sq,ω Z,ω s.rw.src]).toArray).heap[w2.heap.size+1]? =some (.cells #[μ x.pk.mr,υ x.pk.ty,φ s.rw.sq,ω Z,ω s.rw.src,δ os x.pk.ss.length I,x.pk.has,φ x.pk.pr,δ H x.pk.ex.length ke,δ M x.pk.pl.length J] 55 (0,0))):=κ (qB (jY aF.o _) rfl);have bz:Hid ((w6.setRow (w2.heap.size+1) (xQ ((Γh x.pk os I H ke M J):Array Value).toList 0 [μ x.pk.mr,υ x.pk.ty,φ s.rw.sq,ω Z,ω s.rw.src]).toArray).heap[w2.heap.size]? =some (.cells (Γk x os I H ke M J ac) 220 (0,0))):=κ (qS bg.o _ τ);have bY:Hid (qN 14 292 220 (w6.setRow (w2.heap.size+1) (xQ ((Γh x.pk os I H ke M J):Array Value).toList 0 [μ x.pk.mr,υ x.pk.ty,φ s.rw.sq,ω Z,ω s.rw.src]).toArray) k.R2 k.A2 s.room ((aJ+1)%s.room) q bR cU bx bB _):=κ (((cN.o.more bi.o).away ao.o (by obtain⟨⟨ah,ak,af,ad,_⟩,_⟩:=ag.o;exact Ne.symm af) (by obtain⟨⟨ah,ak,af,ad,_⟩,_⟩:=ag.o;exact Ne.symm ad)).away (xb _ _ _) (λe=>by have:=A2.o.size;omega) (λe=>by have:=A2.o.size;omega));obtain⟨W7,cp⟩:=ν (w6.setRow (w2.heap.size+1) (xQ ((Γh x.pk os I H ke M J):Array Value).toList 0 [μ x.pk.mr,υ x.pk.ty,φ s.rw.sq,ω Z,ω s.rw.src]).toArray);rw[cp] at av cq bW bz bY ⊢;clear cp ao bo aF bg bk aZ bt;refine⟨trivial, ?_⟩;go_simp;refine d _ _ ?_;clear d K;refine qA ?_;have cL:Hid (qg (lnE N k vo) w W7):=κ (av.o.mono λb G=>kZ (by rcases G with e | e;exact Or.inl e;exact Or.inr (Or.inr (Or.inl e))))
 go_wp2_with (first | (refine yL (.load 55 (.tmp 7)) rfl ?_;refine vO rfl 55 (.tmp 7) rfl (w2.heap.size+1) 55 _ _ bW.o rfl underlying55 rfl ξ ?_) | (go_at_call 13;(go_call cu.o _ cL.o as e w8 ⟨⟨v8,rfl,aI⟩,cr⟩;have be:=κ aI;have aO:=κ cr;have cJ:=κ (SlI.of_owns aI (by have:=bu.o.1;omega));obtain⟨aP,aD,rfl⟩:=VI aI;clear aI cr)))
 obtain⟨aQ,aA,cf,bd,bL,bq,ct,aN,a3⟩:=U.o.r3;have bC:Hid (qg (λb=>b=k.L∨RgB k.R2 k.A2 b) w w8):=κ (av.o.more aO.o);have bA:=κ (qc aO.o cq.o);have cT:=κ (qc aO.o bz.o);have cX:=κ (bY.o.more aO.o);have cg:=κ a3;have bN:aA.length=s.C.length:=a3.len;have dG:k.R3<w.heap.size:=qn aN.ring;have dx:k.A3<w.heap.size:=qn aN.row;have dq:w.heap.size<=w2.heap.size:=A2.o.size;have ar:Hid (qN 2 294 107 w8 k.R3 k.A3 s.room aQ aA cf bd bL bq ct):=κ (aN.away bC.o (by obtain⟨⟨ah,ak,af,ad,bv,aY⟩,⟨aw,aH,aE,ca,cm⟩,⟨aJ,cI,aQ,cR⟩,⟨cn,bQ,bG⟩,⟨cc,bO⟩,_⟩:=ag.o;rintro(e | e | e)<;>omega) (by obtain⟨⟨ah,ak,af,ad,bv,aY⟩,⟨aw,aH,aE,ca,cm⟩,⟨aJ,cI,aQ,cR⟩,⟨cn,bQ,bG⟩,⟨cc,bO⟩,_⟩:=ag.o;rintro(e | e | e)<;>omega));obtain⟨am,aT,ba,op,bM,bT⟩:=Pc w8 k.R3 k.A3 s.room aQ aA cf bd bL bq ct ar.o (UJ a3) [ι x.id,δ aP body.length aD] ⟨rfl,by simp[Value.oneCell']⟩;have bc:=κ bT;have cH:=κ bM;clear bT bM aN a3;generalize cb:decide (¬aA.length<s.room)=dr at bc;have cK:=κ cb;clear cb;have bP: ¬RgB k.R3 k.A3 k.L:=by
  obtain⟨⟨ah,ak,af,ad,bv,aY⟩,_⟩:=ag.o;rintro(e | e)<;>omega
 have dc: ¬RgB k.R3 k.A3 w2.heap.size:=by rintro(e | e)<;>omega
 go_cut [10,11,12] from 48 (λcO dd de bm=> ∃C,cO= γ C/\dd= μ dr/\de= ι 0/\bm.heap[C]? =some (.cells #[ι am,δ aT ba op] 107 (0,0))/\qg (RgB k.R3 k.A3) w8 bm/\ ∃ap aq aj ai,qN 2 294 107 bm k.R3 k.A3 s.room ap (vE s.room aA [ι x.id,δ aP body.length aD]) aq bd aj bq ai)
 case first=>
  have dD: ∀y:qz (RgB k.R3 k.A3) w8,y.w'.cell? ⟨k.L,3,none⟩=some (π (some ⟨k.R3,0,none⟩)):=λy=>qb (y.h.blk bA.o bP) 3 rfl
  have dz: ∀y:qz (RgB k.R3 k.A3) w8,y.w'.cell? ⟨w2.heap.size,0,none⟩=some (ι x.id):=λy=>qb (y.h.blk cT.o dc) 0 rfl
  refine wC (RgB k.R3 k.A3) w8 18 (.op 0 false (.op 1 false (.op 2 false (.op 3 false (.op 4 false (.op 5 false (.op 6 false (.op 7 false (.op 8 false (.br [9,14] λk=>if k=9 then .op 10 false (.op 11 false (.op 12 false (.op 13 false (.op 14 true (.op 15 true (.op 16 false (.op 17 false (.done)))))))) else .op 9 true (.op 10 false (.op 11 false (.op 12 false (.op 13 false (.op 15 true (.op 16 false (.op 17 false (.done)))))))))))))))))) ξ ξ ?_
  repeat (first | (refine jg rfl rfl (qi σ) ?_) | (refine qH rfl rfl (qi σ) ?_;intro K d;go_big_quiet_op;go_big_quiet_on))
  refine wP ζ ?_ ?_
  ·(refine qO rfl rfl ?_;intro K d;unfold jn;go_simp)
   go_call bc.o _ (ar.o.more (qa.drewN w8 1)) as e w9 ⟨rfl,aa,a9⟩;have O:Hid (qg (RgB k.R3 k.A3) w8 w9):=κ (((qg.refl _ _).drewN 1).trans a9);have aU:=κ aa;clear a9 aa;refine⟨_,rfl,qi O.o,d _ _ ?_⟩;clear d K
   repeat (first | (refine jg rfl rfl (qi O.o) ?_) | (refine qH rfl rfl (qi O.o) ?_;intro K d;go_big_quiet_op;go_big_quiet_on))
   (refine qO rfl rfl ?_;intro K d;unfold jn;go_simp)
   refine⟨qi (O.o.alc _),d _ _ ?_⟩;clear d K
   (refine qO rfl rfl ?_;intro K d;unfold jn;go_simp)
   refine⟨qi (O.o.alc _),d _ _ ?_⟩;clear d K
   repeat (first | (refine jg rfl rfl (qi (O.o.alc _)) ?_) | (refine qH rfl rfl (qi (O.o.alc _)) ?_;intro K d;go_big_quiet_op;go_big_quiet_on))
   refine zg ?_;go_wp2;go_meet;obtain⟨ap,aq,aj,ai,aa⟩:=aU.o;exact⟨_,rfl,rfl,rfl,qj w9 _,O.o.alc _,ap,aq,aj,ai,aa.more (qa.alloc _ _)⟩
  ·(refine qO rfl rfl ?_;intro K d;unfold jn;go_simp)
   refine⟨qi (((qg.refl _ w8).drewN 1).alc _),d _ _ ?_⟩;clear d K
   (refine qO rfl rfl ?_;intro K d;unfold jn;go_simp)
   go_call bc.o _ (ar.o.more ((qa.drewN w8 1).al _)) as e w9 ⟨rfl,aa,a9⟩;have O:Hid (qg (RgB k.R3 k.A3) w8 w9):=κ ((((qg.refl _ _).drewN 1).alc _).trans a9);have aU:=κ aa;have dt:k.R3<w8.heap.size:=qn ar.o.ring;have dj:k.A3<w8.heap.size:=qn ar.o.row;have ax:Hid (w9.heap[w8.heap.size]? =some (.cells Γs 107 (0,0))):=κ (a9.blk (qC rfl) (by rintro(e | e)<;>omega));clear a9 aa;have dE:w9.cell? ⟨w8.heap.size,0,none⟩=some (ι 0):=qb ax.o 0 rfl;have ah:w9.cell? ⟨w8.heap.size,1,none⟩=some (δ none 0 0):=qb ax.o 1 rfl;have e0:w9.frozen? ⟨w8.heap.size,0,none⟩=false:=qd ax.o 0;have aw:w9.frozen? ⟨w8.heap.size,1,none⟩=false:=qd ax.o 1;refine⟨_,rfl,qi O.o,d _ _ ?_⟩;clear d K
   repeat (first | (refine jg rfl rfl (qi O.o) ?_) | (refine qH rfl rfl (qi O.o) ?_;intro K d;go_big_quiet_op;go_big_quiet_on))
   (refine qO rfl rfl ?_;intro K d;unfold jn;go_simp)
   have aB:qg (RgB k.R3 k.A3) w8 ((w9.setCell ⟨w8.heap.size,0,none⟩ (ι am)).setCell ⟨w8.heap.size,1,none⟩ (δ aT ba op)):=(O.o.setNew (Nat.le_refl _) _).setNew (Nat.le_refl _) _;have cW:qg (λb=>b=w8.heap.size) w9 ((w9.setCell ⟨w8.heap.size,0,none⟩ (ι am)).setCell ⟨w8.heap.size,1,none⟩ (δ aT ba op)):=((qg.refl (λb=>b=w8.heap.size) w9).set (p:=⟨w8.heap.size,0,none⟩) rfl _).set (p:=⟨w8.heap.size,1,none⟩) rfl _;refine⟨qi aB,d _ _ ?_⟩;clear d K
   repeat (first | (refine jg rfl rfl (qi aB) ?_) | (refine qH rfl rfl (qi aB) ?_;intro K d;go_big_quiet_op;go_big_quiet_on))
   refine zg ?_;go_wp2;go_meet;obtain⟨ap,aq,aj,ai,aa⟩:=aU.o;exact⟨_,rfl,rfl,rfl,qB (qp (qp ax.o 0 _) 1 _) rfl,aB,ap,aq,aj,ai,aa.away cW τ τ⟩
 case rest=>
 obtain⟨C,rfl,rfl,rfl,ce,bn,ap,aq,aj,ai,co⟩:=hcut;have aG:=κ bn;have df:=κ co;have db:Hid (wc.heap[k.L]? =some (.cells (jQ k vo {s with rw:=⟨s.rw.src,Q,s.rw.st,true,Z,X⟩}) 184 (0,0))):=κ (bn.blk bA.o bP);have dw:wc.cell? ⟨C,0,none⟩=some (ι am):=qb ce 0 rfl;clear bn co ce;go_wp2;refine bodyPost_ret (v:= .tuple #[ι am,dr,true]) (by simp[results,results143,go_sem]) rfl ?_;obtain⟨⟨ah,ak,af,ad,bv,aY⟩,⟨aw,aH,aE,ca,cm⟩,⟨du,dk,dl,dB⟩,⟨cn,bQ,bG⟩,⟨cc,bO⟩,_⟩:=ag.o;have bD:qg (λb=>b=k.L∨RgB k.R2 k.A2 b∨RgB k.R3 k.A3 b) w wc:=(bC.o.mono λb G=>by rcases G with e | e;exact Or.inl e;exact Or.inr (Or.inl e)).trans (aG.o.mono λb G=>Or.inr (Or.inr G));have bX: ∀b,(b=k.L∨RgB k.R2 k.A2 b∨RgB k.R3 k.A3 b)->k.muts b:=λb G=>by rcases G with e | e | e;exact Or.inl e;exact Or.inr (Or.inr (Or.inl e));exact Or.inr (Or.inr (Or.inr e))
 have aL:qg k.muts w wc:=bD.mono bX;have cj:qg (lnM k vo) w wc:=aL.mono λb G=>Or.inl G
 have an: ∀b,vo.ownBlock=some b->vo.ownBlock=some b∨w.heap.size<=b:=λb G=>Or.inl G
 have dg: ∀b,(b=k.L∨RgB k.R2 k.A2 b∨RgB k.R3 k.A3 b)->lnE N k vo b:=λb G=>kZ (bX b G)
 have Y:=U.o.ok;have cG:jw ROu (lnE (xf N w wc) k vo) wc [ι x.id,δ aP body.length aD] (x.id,body):=λw'' a=>by
  refine⟨_,rfl, ?_,bu.o.2,bu.o.1⟩
  have cM:SlI .u8 wc (δ aP body.length aD) body:=cJ.o.off (λb e G=>by
   have cz:=um be.o e;have cP:=av.o.size
   rcases G with G | G<;>omega) aG.o
  refine U.o.fresh (vo':=vo) cM (λb e=>⟨Nat.le_trans av.o.size (um be.o e),Nat.lt_of_lt_of_le (Vg be.o e) aG.o.size⟩) (λb e=>e) a
 have bV:=DY (R:=ROu) (D:=lnE (xf N w wc) k vo) (w:=wc) (room:=s.room) (cg.o.mono λc y bj=>U.o.held bj cj an) cG;have cv:am=dh:=by rw[cH.o,bN,Pg cg.o];exact cx.o
 have cA:dr=cw:=by rw[<-cK.o,bN];exact cy.o
 rw[di.o] at bV;rw[<-cv,<-cA];refine⟨rfl,U.o.make aL.size db.o (U.o.r1.step bD (by rintro(e | (e | e) | (e | e))<;>omega) (by rintro(e | (e | e) | (e | e))<;>omega) dg λb G=>Or.inl (xE U.o.own an G)) ⟨_,_,_,_,_,_,_,cX.o.away aG.o (by rintro(e | e)<;>omega) (by rintro(e | e)<;>omega),AQ.o.mono λc y bj=>U.o.held bj cj an⟩ ⟨_,_,_,_,_,_,_,df.o,bV⟩ (U.o.rows aL) ⟨Y.most,Y.row,Y.lt,cS,Y.src⟩,aL.mono λb G=>U.o.muts b G⟩
theorem Uu (h:LnX N w k vo s):Calls prog 143 #[γ k.L] w λe w'=>e= .returned (.tuple #[ι (qY s).2.1,μ (qY s).2.2.1,μ (qY s).2.2.2])/\LnX (xf N w w') w' k vo (qY s).1/\qg N w w':=by
 cases hB:s.B with
 | nil=>
  have e:qY s=(s,0,false,false):=by unfold qY;rw[hB]
  rw[e];refine(Zj h (by show decide (0<s.B.length)=false;rw[hB];rfl)).mono ?_;rintro e w' ⟨rfl,m⟩;exact⟨rfl,h.grow m,qg.of_more m⟩
 | cons y T=>
  obtain⟨x,d⟩:=y;have e:qY s=((vf {s with B:=T,rw:=ul s.rw x.pk d} (x.id,pkB (kY s.rw x.pk d))).1,(vf {s with B:=T,rw:=ul s.rw x.pk d} (x.id,pkB (kY s.rw x.pk d))).2.1,(vf {s with B:=T,rw:=ul s.rw x.pk d} (x.id,pkB (kY s.rw x.pk d))).2.2,true):=by unfold qY;rw[hB]
  rw[e];have G:=XQ h x d T hB (shL s.rw x.pk.st d) ((x.pk.st+shL s.rw x.pk.st d)%4294967296) ((s.rw.sq+1)%65536) rfl rfl rfl;by_cases hc:s.C.length<s.room
  ·have H:vf {s with B:=T,rw:=ul s.rw x.pk d} (x.id,pkB (kY s.rw x.pk d))=({s with B:=T,rw:=ul s.rw x.pk d,C:=s.C++[(x.id,pkB (kY s.rw x.pk d))]},0,false):=by unfold vf;rw[if_pos hc]
   rw[H];simp only[hc,if_true,not_true,decide_false] at G;exact G
  ·have H:vf {s with B:=T,rw:=ul s.rw x.pk d} (x.id,pkB (kY s.rw x.pk d))=({s with B:=T,rw:=ul s.rw x.pk d,C:=s.C.tail++[(x.id,pkB (kY s.rw x.pk d))]},(s.C.head?.map (·.1)).getD 0,true):=by unfold vf;rw[if_neg hc]
   rw[H];simp only[hc,if_false,not_false_iff,decide_true] at G;exact G
end
theorem xN {P:Program} {ops:Array Oper} {rest:List Oper} {op:Oper} {a:Act} {w:World} {Q:Exit->Act->World->Prop} (H:Region.wanted op (yielded ops a.tmps)=true) (d:TypeId) (x:Operand) (M:op.op= .load d x)
  (b o:Nat) (O:a.eval x= π (some ⟨b,o,none⟩)) (cs:List Value) (G:TypeDesc) (N:w.rangeAt b o cs)
  (U:P.underlying d=some G) (I:G.isRow=true) (hi:(P.info? d).map (·.size)=some cs.length)
  (h:wpList P ops Q rest (a.put op.dst (θ cs.toArray)) w):wpList P ops Q (op::rest) a w:=
 wpList_step λK J=>by
  rw[if_pos H];exact wp_load_mid d x M b o O cs G N U I hi (J _ _ h)
theorem ku {w:World} {b t:Nat} {a0 H d:Value} {cs:List Value} (h:w.heap[b]? =some (.cells (a0::H::d::cs).toArray t (0,0))):w.rangeAt b 3 cs:=λj v G=>by
 rw[cell_of_row w b (3+j) _ t (0,0) h,List.getElem?_toArray,show 3+j=j+1+1+1 by omega]
 simpa using G
theorem Km {D:Nat->Prop} {w:World} {q:List (List Value)} {l:List ItS} (a:zb (jw RIt D w) q l): ∀c∈q,∃(y:ItS) (d I H:Option Addr) (an J bn G cn M:Nat),c=[ι y.id,ι y.layer,y.key,y.pk.mr,υ y.pk.ty,φ y.pk.sq,ω y.pk.st,ω y.pk.sc,δ d an J,y.pk.has,φ y.pk.pr,δ I bn G,δ H cn M]:=λc N=>by
 obtain⟨y,_,O⟩:=a.mem c N;obtain⟨Y,U,vp,rfl,⟨⟨d,J,rfl,_⟩,⟨I,G,rfl,_⟩,⟨H,M,rfl,_⟩⟩,_⟩:=O.read;exact⟨y,d,I,H,_,J,_,G,_,M,rfl⟩
theorem UQ {D:Nat->Prop} {w:World} {q:List (List Value)} {l:List ItS} (a:zb (jw RIt D w) q l):(q.head?.map idN).getD 0=(l.head?.map (·.id)).getD 0:=by
 cases l with
 | nil=>rw[a.nil_r];rfl
 | cons o l=>
  obtain⟨c,q',rfl,d,_⟩:=a.uncons;obtain⟨H,G,vp,rfl,_⟩:=d.read;rfl
theorem Pd (ak:World) (R A room f:Nat) (q:List (List Value)) (ab M ac J:Int) (css:List (List Value)) (ag:qN 13 289 218 ak R A room f q ab M ac J css)
  (al: ∀c∈q,∃(y:ItS) (U O N:Option Addr) (aa H d G Y I:Nat),c=[ι y.id,ι y.layer,y.key,y.pk.mr,υ y.pk.ty,φ y.pk.sq,ω y.pk.st,ω y.pk.sc,δ U aa H,y.pk.has,φ y.pk.pr,δ O d G,δ N Y I]) (x:List Value) (aj:x.length=13/\ ∀u∈x,u.oneCell'=true):
  ∃(y:ItS) (U O N:Option Addr) (aa H d G Y I:Nat),(y.id=if q.length<room then 0 else (q.head?.map idN).getD 0)/\
  ∀w,qN 13 289 218 w R A room f q ab M ac J css->Calls prog 182 #[γ R,θ x.toArray] w λe w'=>e= .returned (.tuple #[θ #[ι y.id,ι y.layer,y.key,y.pk.mr,υ y.pk.ty,φ y.pk.sq,ω y.pk.st,ω y.pk.sc,δ U aa H,y.pk.has,φ y.pk.pr,δ O d G,δ N Y I],(decide (¬q.length<room)),ι 0])/\
   (∃f' af ai css',qN 13 289 218 w' R A room f' (vE room q x) af M ai J css')/\qg (RgB R A) w w':=by
 by_cases hq:q.length<room
 ·refine⟨⟨0,0,false,pk0⟩,none,none,none,0,0,0,0,0,0,by rw[if_pos hq],λw h=> ?_⟩;have ad:decide (¬q.length<room)=false:=by simp[hq]
  have ae:vE room q x=q++[x]:=by unfold vE;rw[if_pos hq]
  rw[ad,ae];refine(UF w R A room f q ab M ac J css h hq x aj).mono ?_;rintro e w' ⟨rfl,⟨af,g⟩,a⟩;exact⟨rfl,⟨_,_,_,_,g⟩,a⟩
 ·have an:=ag.fits;have am:=ag.pos;cases q with
  | nil=>simp at hq;omega
  | cons c T=>
   obtain⟨y,U,O,N,aa,H,d,G,Y,I,ah⟩:=al c η;refine⟨y,U,O,N,aa,H,d,G,Y,I,by rw[if_neg hq,ah];rfl,λw h=> ?_⟩;have ad:decide (¬(c::T).length<room)=true:=by simpa using hq
   have ae:vE room (c::T) x=T++[x]:=by unfold vE;rw[if_neg hq];rfl
   rw[ad,ae];refine(UG w R A room f c T ab M ac J css h τ x aj).mono ?_;rintro e w' ⟨rfl,⟨af,ai,g⟩,a⟩;exact⟨by rw[ah],⟨_,_,_,_,g⟩,a⟩
section
variable {N:Nat->Prop} {w w':World} {k:LnB} {vo:Value} {s s':LnS}
theorem Qt (h:LnX N w k vo s) (x:ItS) (os I H:Option Addr) (J ke d:Nat) (ak:PkS w (δ os x.pk.ss.length J) (δ I x.pk.ex.length ke) (δ H x.pk.pl.length d) x.pk) (ai:uj x.pk) (n:Int)
  (an:(jj x.layer=false/\n=1)∨(jj x.layer=true/\jJ x.pk=false/\n=1)∨(jj x.layer=true/\jJ x.pk=true/\s.gone=true/\n=7)∨(jj x.layer=true/\jJ x.pk=true/\s.gone=false/\s.wanted=false/\n=5)):
  Calls prog 141 #[γ k.L,(Γj x os J I ke H d)] w λe w'=>e= .returned (.tuple #[ι 0,false,ι n])/\qa w w':=by
 have aa:Hid (∀w',qa w w'->Calls prog 47 #[(Γh x.pk os J I ke H d)] w' λe w''=>e= .returned (μ (jJ x.pk))/\qa w' w''):=κ λw' m=>gc x.pk _ _ _ w' (ak.keep m) ai
 have af:=κ λ(w':World) (m:qa w w')=>gF (h.on m)
 have am:=κ h;clear h ak ai;rcases an with ⟨M,rfl⟩ | ⟨M,O,rfl⟩ | ⟨M,O,ab,rfl⟩ | ⟨M,O,ab,aj,rfl⟩
 ·have Y:=κ M;clear M
  go_enter func141,ntmps141
  go_wp2_with (first | (go_at_call 117;(go_call xX x.layer _ as e w1 ⟨rfl,ag⟩;subst w1;rw[Y.o])) | (refine yL (.load 55 (.tmp 15)) rfl ?_;refine xN rfl 55 (.tmp 15) rfl w.heap.size 3 rfl (Γh x.pk os J I ke H d) _ (ku (qj w (.cells (Γj x os J I ke H d) 218))) underlying55 rfl ξ ?_) | (go_at_call 47;(go_call aa.o _ (qa.alloc _ _) as e w2 ⟨rfl,G⟩;have U:Hid (qa w w2):=κ ((qa.alloc _ _).trans G);have ah:=κ (qc G (qj w (.cells (Γj x os J I ke H d) 218)));clear G)))
  refine bodyPost_ret (v:= .tuple #[ι 0,false,ι 1]) (by simp[results,results141,go_sem]) rfl ?_;exact⟨rfl,ρ⟩
 ·have Y:=κ M;rw[O] at aa;clear M O
  go_enter func141,ntmps141
  go_wp2_with (first | (go_at_call 117;(go_call xX x.layer _ as e w1 ⟨rfl,ag⟩;subst w1;rw[Y.o])) | (refine yL (.load 55 (.tmp 15)) rfl ?_;refine xN rfl 55 (.tmp 15) rfl w.heap.size 3 rfl (Γh x.pk os J I ke H d) _ (ku (qj w (.cells (Γj x os J I ke H d) 218))) underlying55 rfl ξ ?_) | (go_at_call 47;(go_call aa.o _ (qa.alloc _ _) as e w2 ⟨rfl,G⟩;have U:Hid (qa w w2):=κ ((qa.alloc _ _).trans G);have ah:=κ (qc G (qj w (.cells (Γj x os J I ke H d) 218)));clear G)))
  refine bodyPost_ret (v:= .tuple #[ι 0,false,ι 1]) (by simp[results,results141,go_sem]) rfl ?_;exact⟨rfl,U.o⟩
 ·have Y:=κ M;rw[O] at aa;rw[ab] at af;clear M O ab
  go_enter func141,ntmps141
  go_wp2_with (first | (go_at_call 117;(go_call xX x.layer _ as e w1 ⟨rfl,ag⟩;subst w1;rw[Y.o])) | (refine yL (.load 55 (.tmp 15)) rfl ?_;refine xN rfl 55 (.tmp 15) rfl w.heap.size 3 rfl (Γh x.pk os J I ke H d) _ (ku (qj w (.cells (Γj x os J I ke H d) 218))) underlying55 rfl ξ ?_) | (go_at_call 47;(go_call aa.o _ (qa.alloc _ _) as e w2 ⟨rfl,G⟩;have U:Hid (qa w w2):=κ ((qa.alloc _ _).trans G);have ah:=κ (qc G (qj w (.cells (Γj x os J I ke H d) 218)));clear G)) | (go_at_call 69;(go_call af.o _ U.o as e ae ⟨rfl,ac⟩;have ad:Hid (qa w ae):=κ (U.o.trans ac);clear ac)))
  refine bodyPost_ret (v:= .tuple #[ι 0,false,ι 7]) (by simp[results,results141,go_sem]) rfl ?_;exact⟨rfl,ad.o⟩
 ·have Y:=κ M;rw[O] at aa;rw[ab] at af;have al:=κ aj;clear M O ab aj
  go_enter func141,ntmps141
  go_wp2_with (first | (go_at_call 117;(go_call xX x.layer _ as e w1 ⟨rfl,ag⟩;subst w1;rw[Y.o])) | (refine yL (.load 55 (.tmp 15)) rfl ?_;refine xN rfl 55 (.tmp 15) rfl w.heap.size 3 rfl (Γh x.pk os J I ke H d) _ (ku (qj w (.cells (Γj x os J I ke H d) 218))) underlying55 rfl ξ ?_) | (go_at_call 47;(go_call aa.o _ (qa.alloc _ _) as e w2 ⟨rfl,G⟩;have U:Hid (qa w w2):=κ ((qa.alloc _ _).trans G);have ah:=κ (qc G (qj w (.cells (Γj x os J I ke H d) 218)));clear G)) | (go_at_call 69;(go_call af.o _ U.o as e ae ⟨rfl,ac⟩;have ad:Hid (qa w ae):=κ (U.o.trans ac);clear ac;have ao:ae.cell? ⟨k.L,4,none⟩=some (μ false):=(by rw[<-al.o];exact qb (qc ad.o am.o.blk) 4 rfl))))
  refine bodyPost_ret (v:= .tuple #[ι 0,false,ι 5]) (by simp[results,results141,go_sem]) rfl ?_;exact⟨rfl,ad.o⟩
theorem Uy (h:LnX N w k vo s) (x:ItS) (os aa Y:Option Addr) (af ke U:Nat) (bo:PkS w (δ os x.pk.ss.length af) (δ aa x.pk.ex.length ke) (δ Y x.pk.pl.length U) x.pk) (ag:uf x.pk) (bk:uj x.pk)
  (bQ:jj x.layer=true) (bl:jJ x.pk=true) (bw:s.gone=false) (bH:s.wanted=true):
  Calls prog 141 #[γ k.L,(Γj x os af aa ke Y U)] w λe w'=>e= .returned (.tuple #[ι (if s.A.length<s.room then 0 else (s.A.head?.map (·.id)).getD 0),(decide (¬s.A.length<s.room)),ι 0])/\
   LnX (xf N w w') w' k vo {s with A:=if s.A.length<s.room then s.A++[x] else s.A.tail++[x]}/\qg N w w':=by
 have cn:Hid (∀w',qa w w'->Calls prog 47 #[(Γh x.pk os af aa ke Y U)] w' λe w''=>e= .returned (μ true)/\qa w' w''):=κ λw' m=>by have:=gc x.pk _ _ _ w' (bo.keep m) bk;rw[bl] at this;exact this
 have ch:Hid (∀(w':World),qa w w'->Calls prog 69 #[γ k.L] w' λe w''=>e= .returned (μ false)/\qa w' w''):=κ λw' m=>by have:=gF (h.on m);rw[bw] at this;exact this
 have bU:=κ bQ;have bT:=κ bl;have cC:=κ bH;have I:=κ h;have aQ:=κ bo;have aj:=κ bk;have cz:=κ ag;have bL:=κ h.dist;obtain⟨cG,aI⟩:=ν ((if s.A.length<s.room then 0 else (s.A.head?.map (·.id)).getD 0));obtain⟨bZ,aH⟩:=ν (decide (¬s.A.length<s.room));obtain⟨cY,bi⟩:=ν ((if s.A.length<s.room then s.A++[x] else s.A.tail++[x]));rw[aI,aH,bi];have ca:=κ aI;have cb:=κ aH;have cf:=κ bi;clear aI aH bi h bo bk ag bQ bl bw bH
 go_enter func141,ntmps141
 go_wp2_with (first | (go_at_call 117;(go_call xX x.layer _ as e w1 ⟨rfl,cu⟩;subst w1;rw[bU.o])) | (refine yL (.load 55 (.tmp 15)) rfl ?_;refine xN rfl 55 (.tmp 15) rfl w.heap.size 3 rfl (Γh x.pk os af aa ke Y U) _ (ku (qj w (.cells (Γj x os af aa ke Y U) 218))) underlying55 rfl ξ ?_) | (go_at_call 47;(go_call cn.o _ (qa.alloc _ _) as e w2 ⟨rfl,aS⟩;have bG:Hid (qa w w2):=κ ((qa.alloc _ _).trans aS);have cL:=κ (qc aS (qj w (.cells (Γj x os af aa ke Y U) 218)));clear aS)) | (go_at_call 69;(go_call ch.o _ bG.o as e aw ⟨rfl,bd⟩;have bj:Hid (qa w aw):=κ (bG.o.trans bd);have bs:=κ (qc bd cL.o);clear bd;have cN:aw.cell? ⟨k.L,4,none⟩=some (μ true):=(by rw[<-cC.o];exact qb (qc bj.o I.o.blk) 4 rfl);have co:aw.cell? ⟨w.heap.size,8,none⟩=some (δ os x.pk.ss.length af):=qb bs.o 8 rfl)) | (go_at_call 45;(go_call Ad _ x.pk.ss aw (aQ.o.s.keep bj.o) aj.o.s as e w4 ⟨⟨v4,rfl,aM⟩,aP⟩;have ao:=κ aM;have bC:Hid (qa w w4):=κ (bj.o.trans aP);have an:=κ (qc aP bs.o);obtain⟨M,J,rfl⟩:=zA aM;clear aM aP;have co:w4.cell? ⟨w.heap.size,8,none⟩=some (δ os x.pk.ss.length af):=qb an.o 8 rfl;have dm:w4.frozen? ⟨w.heap.size,8,none⟩=false:=qd an.o 8;have cx:w4.cell? ⟨w.heap.size,11,none⟩=some (δ aa x.pk.ex.length ke):=qb an.o 11 rfl)) | (go_at_call 46;((with_reducible refine(wQ (δ aa x.pk.ex.length ke) x.pk.ex (w4.setCell ⟨w.heap.size,8,none⟩ (δ M x.pk.ss.length J)) (aQ.o.e.keep (bC.o.st (Nat.le_refl _) _)) aj.o.e).mono ?_);rintro e w5 ⟨⟨v5,rfl,aJ⟩,aF⟩;have av:=κ aJ;have bD:Hid (qa w w5):=κ ((bC.o.st (Nat.le_refl _) _).trans aF);have bO:Hid (qg (λb=>b=w.heap.size) w4 w5):=κ (((qg.refl (λb=>b=w.heap.size) w4).set (p:=⟨w.heap.size,8,none⟩) rfl _).more aF);have ap:Hid (w5.heap[w.heap.size]? =some (.cells (Γj x M J aa ke Y U) 218 (0,0))):=κ (qc aF (qB (qp an.o 8 _) rfl));obtain⟨ab,ac,rfl⟩:=zA aJ;clear aJ aF;have cx:w5.cell? ⟨w.heap.size,11,none⟩=some (δ aa x.pk.ex.length ke):=qb ap.o 11 rfl;have dg:w5.frozen? ⟨w.heap.size,11,none⟩=false:=qd ap.o 11;have bY:w5.cell? ⟨w.heap.size,12,none⟩=some (δ Y x.pk.pl.length U):=qb ap.o 12 rfl)) | (go_at_call 46;((with_reducible refine(wQ (δ Y x.pk.pl.length U) x.pk.pl (w5.setCell ⟨w.heap.size,11,none⟩ (δ ab x.pk.ex.length ac)) (aQ.o.l.keep (bD.o.st (Nat.le_refl _) _)) aj.o.l).mono ?_);rintro e w6 ⟨⟨v6,rfl,aX⟩,az⟩;have aq:=κ aX;have cq:Hid (qa w w6):=κ ((bD.o.st (Nat.le_refl _) _).trans az);have bn:Hid (qg (λb=>b=w.heap.size) w5 w6):=κ (((qg.refl (λb=>b=w.heap.size) w5).set (p:=⟨w.heap.size,11,none⟩) rfl _).more az);have aW:Hid (w6.heap[w.heap.size]? =some (.cells (Γj x M J ab ac Y U) 218 (0,0))):=κ (qc az (qB (qp ap.o 11 _) rfl));obtain⟨ae,ad,rfl⟩:=zA aX;clear aX az;have bY:w6.cell? ⟨w.heap.size,12,none⟩=some (δ Y x.pk.pl.length U):=qb aW.o 12 rfl;have cW:w6.frozen? ⟨w.heap.size,12,none⟩=false:=qd aW.o 12)))
 obtain⟨W7,ax⟩:=ν (w6.setCell ⟨w.heap.size,12,none⟩ (δ ae x.pk.pl.length ad));have aE:Hid (qg (λb=>b=w.heap.size) w6 W7):=κ (by rw[<-ax];exact(qg.refl (λb=>b=w.heap.size) w6).set (p:=⟨w.heap.size,12,none⟩) rfl _);have bg:Hid (qa w W7):=κ (by rw[<-ax];exact cq.o.st (Nat.le_refl _) _);have bW:Hid (W7.heap[w.heap.size]? =some (.cells (Γj x M J ab ac ae ad) 218 (0,0))):=κ (by rw[<-ax];exact qB (qp aW.o 12 _) rfl);rw[ax];clear ax;have bv:=κ (qc bg.o I.o.blk);have dn:w.heap.size<aw.heap.size:=qn bs.o;have cU:w.heap.size<w4.heap.size:=qn an.o;have cQ:w.heap.size<w5.heap.size:=qn ap.o;have dc:w4.heap.size<=w5.heap.size:=bO.o.size;have dl:w5.heap.size<=w6.heap.size:=bn.o.size;have dk:w6.heap.size<=W7.heap.size:=aE.o.size;have ck:Hid (SlI .u32 W7 (δ M x.pk.ss.length J) x.pk.ss):=κ ((SlI.of_owns ao.o (by have:=aj.o.s;omega)).off (λb e H=>by have:=um ao.o e;omega) ((bO.o.trans bn.o).trans aE.o));have cJ:Hid (SlI .u8 W7 (δ ab x.pk.ex.length ac) x.pk.ex):=κ ((SlI.of_owns av.o (by have:=aj.o.e;omega)).off (λb e H=>by have:=um av.o e;simp at this;omega) (bn.o.trans aE.o));have S6:Hid (SlI .u8 W7 (δ ae x.pk.pl.length ad) x.pk.pl):=κ ((SlI.of_owns aq.o (by have:=aj.o.l;omega)).off (λb e H=>by have:=um aq.o e;simp at this;omega) aE.o);have bp:Hid (∀b,(δ M x.pk.ss.length J).ownBlock=some b->w.heap.size<=b/\b<W7.heap.size):=κ λb e=>by
  have ay:=um ao.o e;have bB:=Vg ao.o e;omega
 have aZ:Hid (∀b,(δ ab x.pk.ex.length ac).ownBlock=some b->w.heap.size<=b/\b<W7.heap.size):=κ λb e=>by
  have ay:=um av.o e;have bB:=Vg av.o e;simp at ay;omega
 have bm:Hid (∀b,(δ ae x.pk.pl.length ad).ownBlock=some b->w.heap.size<=b/\b<W7.heap.size):=κ λb e=>by
  have ay:=um aq.o e;have bB:=Vg aq.o e;simp at ay;omega
 clear ao av aq;obtain⟨cv,aD,cr,bx,bS,bt,cp,aA,aB⟩:=I.o.r1;have bN:=κ aB;have bu:aD.length=s.A.length:=aB.len;have cR:k.R1<w.heap.size:=qn aA.ring;have cS:k.A1<w.heap.size:=qn aA.row;have au:=κ (aA.more bg.o);obtain⟨y,be,bc,aO,bf,aK,bh,aR,bq,aU,bz,bE⟩:=Pd W7 k.R1 k.A1 s.room cv aD cr bx bS bt cp au.o (Km aB) (Γj x M J ab ac ae ad) ⟨rfl,by simp[Value.oneCell']⟩;have aT:=κ bE;have cj:=κ bz;clear bE bz aA aB;generalize bK:decide (¬aD.length<s.room)=dr at aT;have cm:=κ bK;clear bK;have bA: ¬RgB k.R1 k.A1 k.L:=by
  obtain⟨⟨cA,cd,cw,bV,cI,ce⟩,_⟩:=bL.o;rintro(e | e)<;>omega
 have cl: ¬RgB k.R1 k.A1 w.heap.size:=by rintro(e | e)<;>omega
 go_cut [7,8,9] from 45 (λcD ci cE ba=> ∃C,cD= γ C/\ci= μ dr/\cE= ι 0/\ba.heap[C]? =some (.cells #[ι y.id,ι y.layer,y.key,y.pk.mr,υ y.pk.ty,φ y.pk.sq,ω y.pk.st,ω y.pk.sc,δ be bf aK,y.pk.has,φ y.pk.pr,δ bc bh aR,δ aO bq aU] 218 (0,0))/\qg (RgB k.R1 k.A1) W7 ba/\ ∃ak am ai ah,qN 13 289 218 ba k.R1 k.A1 s.room ak (vE s.room aD (Γj x M J ab ac ae ad)) am bx ai bt ah)
 case first=>
  have cM: ∀z:qz (RgB k.R1 k.A1) W7,z.w'.cell? ⟨k.L,1,none⟩=some (π (some ⟨k.R1,0,none⟩)):=λz=>qb (z.h.blk bv.o bA) 1 rfl
  have cy: ∀z:qz (RgB k.R1 k.A1) W7,z.w'.rangeAt w.heap.size 0 (Γj x M J ab ac ae ad):=λz=>xy (z.h.blk bW.o cl)
  refine wC (RgB k.R1 k.A1) W7 14 (.op 0 false (.op 1 false (.op 2 false (.op 3 false (.op 4 false (.br [5,10] λk=>if k=5 then .op 6 false (.op 7 false (.op 8 false (.op 9 false (.op 10 true (.op 11 true (.op 12 false (.op 13 false (.done)))))))) else .op 5 true (.op 6 false (.op 7 false (.op 8 false (.op 9 false (.op 11 true (.op 12 false (.op 13 false (.done)))))))))))))) ξ ξ ?_
  iterate 4 (refine qH rfl rfl (qi σ) ?_;intro K d;go_big_quiet_op;go_big_quiet_on)
  refine QU rfl rfl (qi σ) 218 (.tmp 3) rfl w.heap.size 0 rfl (Γj x M J ab ac ae ad) _ (λw' cK=>by obtain⟨z,rfl⟩:=cK;exact cy z) underlying218 rfl ξ ?_;intro K d;go_simp;refine d _ ?_;clear d K;refine wP ζ ?_ ?_
  ·(refine qO rfl rfl ?_;intro K d;unfold jn;go_simp)
   go_call aT.o _ (au.o.more (qa.drewN W7 1)) as e w9 ⟨rfl,O,a9⟩;have G:Hid (qg (RgB k.R1 k.A1) W7 w9):=κ (((qg.refl _ _).drewN 1).trans a9);have aL:=κ O;clear a9 O;refine⟨_,rfl,qi G.o,d _ _ ?_⟩;clear d K
   repeat (first | (refine jg rfl rfl (qi G.o) ?_) | (refine qH rfl rfl (qi G.o) ?_;intro K d;go_big_quiet_op;go_big_quiet_on))
   (refine qO rfl rfl ?_;intro K d;unfold jn;go_simp)
   refine⟨qi (G.o.alc _),d _ _ ?_⟩;clear d K;refine qO rfl rfl ?_;intro K d;refine jr 218 (.tmp 7) (.tmp 52) rfl w9.heap.size 218 _ #[ι y.id,ι y.layer,y.key,y.pk.mr,υ y.pk.ty,φ y.pk.sq,ω y.pk.st,ω y.pk.sc,δ be bf aK,y.pk.has,φ y.pk.pr,δ bc bh aR,δ aO bq aU] rfl rfl (qj w9 _) ξ rfl (all_oneCell_toArray (by simp[Value.oneCell'])) ?_;refine⟨qi ((G.o.alc _).rowNew G.o.size _), ?_⟩;go_simp;refine d _ _ ?_;clear d K
   repeat (first | (refine jg rfl rfl (qi ((G.o.alc _).rowNew G.o.size _)) ?_) | (refine qH rfl rfl (qi ((G.o.alc _).rowNew G.o.size _)) ?_;intro K d;go_big_quiet_op;go_big_quiet_on))
   refine zg ?_;go_wp2;go_meet;obtain⟨ak,am,ai,ah,O⟩:=aL.o;refine⟨_,rfl,rfl,rfl,jY (qj w9 _) _,(G.o.alc _).rowNew G.o.size _,ak,am,ai,ah,(O.more (qa.alloc _ _)).away (xb _ _ _) ?_ ?_⟩
   ·have:=qn O.ring;omega
   ·have:=qn O.row;omega
  ·(refine qO rfl rfl ?_;intro K d;unfold jn;go_simp)
   refine⟨qi (((qg.refl _ W7).drewN 1).alc _),d _ _ ?_⟩;clear d K
   (refine qO rfl rfl ?_;intro K d;unfold jn;go_simp)
   go_call aT.o _ (au.o.more ((qa.drewN W7 1).al _)) as e w9 ⟨rfl,O,a9⟩;have G:Hid (qg (RgB k.R1 k.A1) W7 w9):=κ ((((qg.refl _ _).drewN 1).alc _).trans a9);have aL:=κ O;have cX:k.R1<W7.heap.size:=qn au.o.ring;have de:k.A1<W7.heap.size:=qn au.o.row;have bJ:Hid (w9.heap[W7.heap.size]? =some (.cells Γa 218 (0,0))):=κ (a9.blk (qC rfl) (by rintro(e | e)<;>omega));clear a9 O;refine⟨_,rfl,qi G.o,d _ _ ?_⟩;clear d K
   repeat (first | (refine jg rfl rfl (qi G.o) ?_) | (refine qH rfl rfl (qi G.o) ?_;intro K d;go_big_quiet_op;go_big_quiet_on))
   refine qO rfl rfl ?_;intro K d;refine jr 218 (.tmp 7) (.tmp 52) rfl W7.heap.size 218 _ #[ι y.id,ι y.layer,y.key,y.pk.mr,υ y.pk.ty,φ y.pk.sq,ω y.pk.st,ω y.pk.sc,δ be bf aK,y.pk.has,φ y.pk.pr,δ bc bh aR,δ aO bq aU] rfl rfl bJ.o ξ rfl (all_oneCell_toArray (by simp[Value.oneCell'])) ?_;refine⟨qi (G.o.rowNew (Nat.le_refl _) _), ?_⟩;go_simp;refine d _ _ ?_;clear d K
   repeat (first | (refine jg rfl rfl (qi (G.o.rowNew (Nat.le_refl _) _)) ?_) | (refine qH rfl rfl (qi (G.o.rowNew (Nat.le_refl _) _)) ?_;intro K d;go_big_quiet_op;go_big_quiet_on))
   refine zg ?_;go_wp2;go_meet;obtain⟨ak,am,ai,ah,O⟩:=aL.o;exact⟨_,rfl,rfl,rfl,jY bJ.o _,G.o.rowNew (Nat.le_refl _) _,ak,am,ai,ah,O.away (xb _ _ _) τ τ⟩
 case rest=>
 obtain⟨C,rfl,rfl,rfl,bM,bb,ak,am,ai,ah,bR⟩:=hcut;have ar:=κ bb;have cF:=κ bR;have cB:Hid (wc.heap[k.L]? =some (.cells (jQ k vo s) 184 (0,0))):=κ (bb.blk bv.o bA);have df:wc.cell? ⟨C,0,none⟩=some (ι y.id):=qb bM 0 rfl;clear bb bR bM;go_wp2;refine bodyPost_ret (v:= .tuple #[ι y.id,dr,ι 0]) (by simp[results,results141,go_sem]) rfl ?_;obtain⟨⟨cA,cd,cw,bV,cI,ce⟩,⟨cu,da,cT,dh,dp⟩,⟨dd,cP,cO,dj⟩,⟨dq,db,cV⟩,⟨di,cZ⟩,_⟩:=bL.o;have aN:qg (RgB k.R1 k.A1) w wc:=(qg.of_more bg.o).trans ar.o;have bI: ∀b,RgB k.R1 k.A1 b->k.muts b:=λb H=>Or.inr (Or.inl H)
 have aC:qg k.muts w wc:=aN.mono bI;have cH:qg (lnM k vo) w wc:=aC.mono λb H=>Or.inl H
 have aV: ∀b,vo.ownBlock=some b->vo.ownBlock=some b∨w.heap.size<=b:=λb H=>Or.inl H
 have bP: ∀b,RgB k.R1 k.A1 b->lnE N k vo b:=λb H=>kZ (bI b H)
 have ag:=I.o.ok;have aG:W7.heap.size<=wc.heap.size:=ar.o.size;have aY: ∀b,w.heap.size<=b-> ¬RgB k.R1 k.A1 b:=λb H e=>by rcases e with e | e<;>omega
 have cg:jw RIt (lnE (xf N w wc) k vo) wc (Γj x M J ab ac ae ad) x:=λw'' a=>by
  refine⟨_,_,_,rfl,⟨?_, ?_, ?_⟩,cz.o,bT.o⟩
  ·exact I.o.fresh (vo':=vo) (ck.o.off (λb e=>aY b (bp.o b e).1) ar.o) (λb e=>⟨(bp.o b e).1,Nat.lt_of_lt_of_le (bp.o b e).2 aG⟩) (λb e=>e) a
  ·exact I.o.fresh (vo':=vo) (cJ.o.off (λb e=>aY b (aZ.o b e).1) ar.o) (λb e=>⟨(aZ.o b e).1,Nat.lt_of_lt_of_le (aZ.o b e).2 aG⟩) (λb e=>e) a
  ·exact I.o.fresh (vo':=vo) (S6.o.off (λb e=>aY b (bm.o b e).1) ar.o) (λb e=>⟨(bm.o b e).1,Nat.lt_of_lt_of_le (bm.o b e).2 aG⟩) (λb e=>e) a
 have bF:=DY (R:=RIt) (D:=lnE (xf N w wc) k vo) (w:=wc) (room:=s.room) (bN.o.mono λc y ct=>I.o.held ct cH aV) cg;have bX:y.id=cG:=by rw[cj.o,bu,UQ bN.o];exact ca.o
 have cc:dr=bZ:=by rw[<-cm.o,bu];exact cb.o
 rw[cf.o] at bF;rw[<-bX,<-cc];exact⟨rfl,I.o.make aC.size cB.o ⟨_,_,_,_,_,_,_,cF.o,bF⟩ (I.o.r2.step aN (by rintro(e | e)<;>omega) (by rintro(e | e)<;>omega) bP λb H=>Or.inl (xE I.o.own aV H)) (I.o.r3.step aN (by rintro(e | e)<;>omega) (by rintro(e | e)<;>omega) bP λb H=>Or.inl (xE I.o.own aV H)) (I.o.rows aC) ⟨ag.most,ag.row,ag.lt,ag.sq,ag.src⟩,aC.mono λb H=>I.o.muts b H⟩
theorem Ii (h:LnX N w k vo s) (x:ItS) (os I H:Option Addr) (J ke G:Nat) (M:PkS w (δ os x.pk.ss.length J) (δ I x.pk.ex.length ke) (δ H x.pk.pl.length G) x.pk) (aa:uf x.pk) (O:uj x.pk):
  Calls prog 141 #[γ k.L,(Γj x os J I ke H G)] w λe w'=>e= .returned (.tuple #[ι (xp s x).2.1,μ (xp s x).2.2.1,ι (xp s x).2.2.2])/\LnX (xf N w w') w' k vo (xp s x).1/\qg N w w':=by
 by_cases h1:(jj x.layer&&jJ x.pk)=false
 ·have e:xp s x=(s,0,false,1):=by unfold xp;rw[if_pos h1]
  rw[e];refine(Qt h x os I H J ke G M O 1 ?_).mono ?_
  ·cases d:jj x.layer with
   | false=>exact Or.inl ⟨rfl,rfl⟩
   | true=>rw[d] at h1;exact Or.inr (Or.inl ⟨rfl,by simpa using h1,rfl⟩)
  ·rintro e w' ⟨rfl,m⟩;exact⟨rfl,h.grow m,qg.of_more m⟩
 ·have d:jj x.layer=true/\jJ x.pk=true:=by simpa using h1
  cases hg:s.gone with
  | true=>
   have e:xp s x=(s,0,false,7):=by unfold xp;rw[if_neg h1,if_pos hg]
   rw[e];refine(Qt h x os I H J ke G M O 7 (Or.inr (Or.inr (Or.inl ⟨d.1,d.2,hg,rfl⟩)))).mono ?_;rintro e w' ⟨rfl,m⟩;exact⟨rfl,h.grow m,qg.of_more m⟩
  | false=>
   cases hw:s.wanted with
   | false=>
    have e:xp s x=(s,0,false,5):=by unfold xp;rw[if_neg h1,if_neg (by rw[hg];decide),if_pos hw]
    rw[e];refine(Qt h x os I H J ke G M O 5 (Or.inr (Or.inr (Or.inr ⟨d.1,d.2,hg,hw,rfl⟩)))).mono ?_;rintro e w' ⟨rfl,m⟩;exact⟨rfl,h.grow m,qg.of_more m⟩
   | true=>
    have e:xp s x=((yX s x).1,(yX s x).2.1,(yX s x).2.2,0):=by unfold xp;rw[if_neg h1,if_neg (by rw[hg];decide),if_neg (by rw[hw];decide)]
    rw[e];have U:=Uy h x os I H J ke G M aa O d.1 d.2 hg hw;by_cases hc:s.A.length<s.room
    ·have Y:yX s x=({s with A:=s.A++[x]},0,false):=by unfold yX;rw[if_pos hc]
     rw[Y];simp only[hc,if_true,not_true,decide_false] at U;exact U
    ·have Y:yX s x=({s with A:=s.A.tail++[x]},(s.A.head?.map (·.id)).getD 0,true):=by unfold yX;rw[if_neg hc]
     rw[Y];simp only[hc,if_false,not_false_iff,decide_true] at U;exact U
end
theorem Qv {w:World} {base d e n m:Nat} {v:Value} {xs:List Value} (h:w.ownsRow base e n v m xs) (I:d<=base):w.ownsRow d e n v m xs:=by
 obtain⟨G,H⟩:=h;refine⟨G, ?_⟩;rcases H with h | ⟨b,cap,cur,e1,hb1,rest⟩
 ·exact Or.inl h
 ·exact Or.inr ⟨b,cap,cur,e1,Nat.le_trans I hb1,rest⟩
theorem Wl {d:Nat->Prop} {w w1 w2:World} (H:w.heap.size<=w1.heap.size) (G:w1.heap.size<=w2.heap.size):xf (xf d w w1) w1 w2=xf d w w2:=by
 funext b
 apply propext;unfold xf;constructor
 ·rintro((e | e) | e)
  ·exact Or.inl e
  ·exact Or.inr ⟨e.1,τ⟩
  ·exact Or.inr ⟨τ,e.2⟩
 ·rintro(e | e)
  ·exact Or.inl (Or.inl e)
  ·by_cases h:b<w1.heap.size
   ·exact Or.inl (Or.inr ⟨e.1,h⟩)
   ·exact Or.inr ⟨τ,e.2⟩
theorem je.widen {α:Type} {n:Nat} {R:qL α} {D D':Nat->Prop} {w:World} {base e:Nat} {v:Value} {L:List α} (h:je n R D w base e v L) (k: ∀b,D' b->D b∨w.heap.size<=b):je n R D' w base e v L:=by
 have H:=λ{b} (d:v.ownBlock=some b)=>h.lt d
 obtain⟨⟨xs,o,r⟩,G⟩:=h;refine⟨⟨xs,o,λi hi=>(r i hi).other λb d=> ?_⟩,λb d I=> ?_⟩
 ·rcases d with e | e
  ·rcases k b e with e | e
   ·exact Or.inl (Or.inl e)
   ·exact Or.inr e
  ·exact Or.inl (Or.inr e)
 ·rcases k b I with e | e
  ·exact G b d e
  ·have:=H d;omega
section
variable {D:Nat->Prop} {w:World}
theorem ZT {q:List (List Value)} {l:List ItS} (a:zb (jw RIt D w) q l):q.map idN=l.map (·.id)/\ ∀c∈q,∃i r,c= ι i::r/\r.length=12:=by
 induction l generalizing q with
 | nil=>rw[a.nil_r];exact⟨rfl,λc d=>by simp at d⟩
 | cons y l ih=>
  obtain⟨c,q',rfl,G,a'⟩:=a.uncons;obtain⟨I,H⟩:=ih a';obtain⟨M,J,vp,rfl,_⟩:=G.read;refine⟨by rw[List.map_cons,List.map_cons,I];rfl,λc d=> ?_⟩;rcases List.mem_cons.1 d with rfl | d
  ·exact⟨_,_,rfl,rfl⟩
  ·exact H c d
theorem VV {q:List (List Value)} {l:List (ItS×Bool)} (a:zb (jw RCh D w) q l):q.map idN=l.map (·.1.id)/\ ∀c∈q,∃i r,c= ι i::r/\r.length=13:=by
 induction l generalizing q with
 | nil=>rw[a.nil_r];exact⟨rfl,λc d=>by simp at d⟩
 | cons y l ih=>
  obtain⟨c,q',rfl,G,a'⟩:=a.uncons;obtain⟨I,H⟩:=ih a';obtain⟨M,J,vp,rfl,_⟩:=G.read;refine⟨by rw[List.map_cons,List.map_cons,I];rfl,λc d=> ?_⟩;rcases List.mem_cons.1 d with rfl | d
  ·exact⟨_,_,rfl,rfl⟩
  ·exact H c d
theorem Vv {q:List (List Value)} {l:List (Int×List Int)} (a:zb (jw ROu D w) q l):q.map idN=l.map (·.1)/\ ∀c∈q,∃i r,c= ι i::r/\r.length=1:=by
 induction l generalizing q with
 | nil=>rw[a.nil_r];exact⟨rfl,λc d=>by simp at d⟩
 | cons y l ih=>
  obtain⟨c,q',rfl,G,a'⟩:=a.uncons;obtain⟨I,H⟩:=ih a';obtain⟨v,rfl,_⟩:=G.read;refine⟨by rw[List.map_cons,List.map_cons,I];rfl,λc d=> ?_⟩;rcases List.mem_cons.1 d with rfl | d
  ·exact⟨_,_,rfl,rfl⟩
  ·exact H c d
end
section
variable {N:Nat->Prop} {w w':World} {k:LnB} {vo:Value} {s s':LnS}
theorem Z1 (h:LnX N w k vo s):Calls prog 132 #[γ k.L,ι 1] w λe w'=>(∃v,e= .returned v/\w'.ownsRow w.heap.size 3 1 v (s.A.map (·.id)).length ((s.A.map (·.id)).map (Value.int .i64)))/\LnX (xf N w w') w' k vo {s with A:=[]}/\qg k.muts w w':=by
 have c1:w.cell? ⟨k.L,1,none⟩=some (π (some ⟨k.R1,0,none⟩)):=qb h.blk 1 rfl;have H:=κ h;have az:=κ h.dist;obtain⟨av,O,am,ax,aj,al,ai,G,I⟩:=h.r1;have an:=κ G;have ao:=κ (ZT I).2;have ah:=κ (ZT I).1;have ak:Hid (∀c∈O,∀u∈c,u.oneCell'=true):=κ λc au=>(G.qall c au).2
 have ar:O.length<=8:=by have:=G.fits;have:=G.pos;omega
 clear h G I
 go_enter func132,ntmps132
 go_wp2_with (first | (go_at_call 166;(go_call IN w k.R1 k.A1 s.room av O am ax aj al ai an.o as e w1 ⟨v1,rfl,ab,G,I⟩;have aq:=κ ab;have ay:=κ G;have af:=κ I;clear ab G I)) | (go_at_call 165;(go_call Nl w1 v1 O w.heap.size aq.o ao.o ak.o ar as e w2 ⟨⟨v2,rfl,o2⟩,Y⟩;have ap:=κ o2;have aa:=κ Y;clear o2 Y)))
 go_ret;obtain⟨⟨aD,aK,aT,aA,aN,aL⟩,⟨aH,aM,aR,aS,aO⟩,⟨aI,aE,aF,aG⟩,⟨aP,aB,aC⟩,⟨aV,aJ⟩,_⟩:=az.o;have M:qg (RgB k.R1 k.A1) w w2:=af.o.more aa.o;have ac: ∀b,RgB k.R1 k.A1 b->k.muts b:=λb d=>Or.inr (Or.inl d)
 have U:qg k.muts w w2:=M.mono ac;have ad: ∀b,vo.ownBlock=some b->vo.ownBlock=some b∨w.heap.size<=b:=λb d=>Or.inl d
 have ae: ∀b,RgB k.R1 k.A1 b->lnE N k vo b:=λb d=>kZ (ac b d)
 have J:=H.o.ok;obtain⟨aQ,aU,aW,aw⟩:=ay.o;have ag:=Qv ap.o af.o.size;rw[ah.o] at ag;exact⟨⟨_,rfl,ag⟩,H.o.make U.size (M.blk H.o.blk (by rintro(e | e)<;>omega)) ⟨_,_,_,_,_,_,_,aw.more aa.o,trivial⟩ (H.o.r2.step M (by rintro(e | e)<;>omega) (by rintro(e | e)<;>omega) ae λb d=>Or.inl (xE H.o.own ad d)) (H.o.r3.step M (by rintro(e | e)<;>omega) (by rintro(e | e)<;>omega) ae λb d=>Or.inl (xE H.o.own ad d)) (H.o.rows U) ⟨J.most,J.row,J.lt,J.sq,J.src⟩,U⟩
theorem ZZ (h:LnX N w k vo s):Calls prog 132 #[γ k.L,ι 2] w λe w'=>(∃v,e= .returned v/\w'.ownsRow w.heap.size 3 1 v (s.B.map (·.1.id)).length ((s.B.map (·.1.id)).map (Value.int .i64)))/\LnX (xf N w w') w' k vo {s with B:=[]}/\qg k.muts w w':=by
 have c1:w.cell? ⟨k.L,2,none⟩=some (π (some ⟨k.R2,0,none⟩)):=qb h.blk 2 rfl;have H:=κ h;have ay:=κ h.dist;obtain⟨au,O,al,aw,ai,ak,ah,G,I⟩:=h.r2;have am:=κ G;have an:=κ (VV I).2;have ag:=κ (VV I).1;have aj:Hid (∀c∈O,∀u∈c,u.oneCell'=true):=κ λc ar=>(G.qall c ar).2
 have aq:O.length<=8:=by have:=G.fits;have:=G.pos;omega
 clear h G I
 go_enter func132,ntmps132
 go_wp2_with (first | (go_at_call 169;(go_call IO w k.R2 k.A2 s.room au O al aw ai ak ah am.o as e w1 ⟨v1,rfl,ab,G,I⟩;have ap:=κ ab;have ax:=κ G;have A2:=κ I;clear ab G I)) | (go_at_call 168;(go_call Nm w1 v1 O w.heap.size ap.o an.o aj.o aq as e w2 ⟨⟨v2,rfl,o2⟩,Y⟩;have ao:=κ o2;have aa:=κ Y;clear o2 Y)))
 go_ret;obtain⟨⟨aC,aJ,aS,az,aM,aK⟩,⟨aG,aL,aQ,aR,aN⟩,⟨aH,aD,aE,aF⟩,⟨aO,aA,aB⟩,⟨aU,aI⟩,_⟩:=ay.o;have M:qg (RgB k.R2 k.A2) w w2:=A2.o.more aa.o;have ac: ∀b,RgB k.R2 k.A2 b->k.muts b:=λb d=>Or.inr (Or.inr (Or.inl d))
 have U:qg k.muts w w2:=M.mono ac;have ad: ∀b,vo.ownBlock=some b->vo.ownBlock=some b∨w.heap.size<=b:=λb d=>Or.inl d
 have ae: ∀b,RgB k.R2 k.A2 b->lnE N k vo b:=λb d=>kZ (ac b d)
 have J:=H.o.ok;obtain⟨aP,aT,aV,av⟩:=ax.o;have af:=Qv ao.o A2.o.size;rw[ag.o] at af;exact⟨⟨_,rfl,af⟩,H.o.make U.size (M.blk H.o.blk (by rintro(e | e)<;>omega)) (H.o.r1.step M (by rintro(e | e)<;>omega) (by rintro(e | e)<;>omega) ae λb d=>Or.inl (xE H.o.own ad d)) ⟨_,_,_,_,_,_,_,av.more aa.o,trivial⟩ (H.o.r3.step M (by rintro(e | e)<;>omega) (by rintro(e | e)<;>omega) ae λb d=>Or.inl (xE H.o.own ad d)) (H.o.rows U) ⟨J.most,J.row,J.lt,J.sq,J.src⟩,U⟩
theorem ZY (h:LnX N w k vo s):Calls prog 132 #[γ k.L,ι 3] w λe w'=>(∃v,e= .returned v/\w'.ownsRow w.heap.size 3 1 v (s.C.map (·.1)).length ((s.C.map (·.1)).map (Value.int .i64)))/\LnX (xf N w w') w' k vo {s with C:=[]}/\qg k.muts w w':=by
 have c1:w.cell? ⟨k.L,3,none⟩=some (π (some ⟨k.R3,0,none⟩)):=qb h.blk 3 rfl;have H:=κ h;have az:=κ h.dist;obtain⟨av,O,am,ax,aj,al,ai,G,I⟩:=h.r3;have an:=κ G;have ao:=κ (Vv I).2;have ah:=κ (Vv I).1;have ak:Hid (∀c∈O,∀u∈c,u.oneCell'=true):=κ λc au=>(G.qall c au).2
 have ar:O.length<=8:=by have:=G.fits;have:=G.pos;omega
 clear h G I
 go_enter func132,ntmps132
 go_wp2_with (first | (go_at_call 172;(go_call IM w k.R3 k.A3 s.room av O am ax aj al ai an.o as e w1 ⟨v1,rfl,ab,G,I⟩;have aq:=κ ab;have ay:=κ G;have af:=κ I;clear ab G I)) | (go_at_call 171;(go_call Nk w1 v1 O w.heap.size aq.o ao.o ak.o ar as e w2 ⟨⟨v2,rfl,o2⟩,Y⟩;have ap:=κ o2;have aa:=κ Y;clear o2 Y)))
 go_ret;obtain⟨⟨aD,aK,aT,aA,aN,aL⟩,⟨aH,aM,aR,aS,aO⟩,⟨aI,aE,aF,aG⟩,⟨aP,aB,aC⟩,⟨aV,aJ⟩,_⟩:=az.o;have M:qg (RgB k.R3 k.A3) w w2:=af.o.more aa.o;have ac: ∀b,RgB k.R3 k.A3 b->k.muts b:=λb d=>Or.inr (Or.inr (Or.inr d))
 have U:qg k.muts w w2:=M.mono ac;have ad: ∀b,vo.ownBlock=some b->vo.ownBlock=some b∨w.heap.size<=b:=λb d=>Or.inl d
 have ae: ∀b,RgB k.R3 k.A3 b->lnE N k vo b:=λb d=>kZ (ac b d)
 have J:=H.o.ok;obtain⟨aQ,aU,aW,aw⟩:=ay.o;have ag:=Qv ap.o af.o.size;rw[ah.o] at ag;exact⟨⟨_,rfl,ag⟩,H.o.make U.size (M.blk H.o.blk (by rintro(e | e)<;>omega)) (H.o.r1.step M (by rintro(e | e)<;>omega) (by rintro(e | e)<;>omega) ae λb d=>Or.inl (xE H.o.own ad d)) (H.o.r2.step M (by rintro(e | e)<;>omega) (by rintro(e | e)<;>omega) ae λb d=>Or.inl (xE H.o.own ad d)) ⟨_,_,_,_,_,_,_,aw.more aa.o,trivial⟩ (H.o.rows U) ⟨J.most,J.row,J.lt,J.sq,J.src⟩,U⟩
def vh (s:LnS) (n:Int):LnS:={s with A:=if n=1 then [] else s.A,B:=if n=2 then [] else s.B,C:=if n=3 then [] else s.C}
theorem Cm (h:LnX N w k vo s) (n:Int) (H:n=1∨n=2∨n=3):Calls prog 132 #[γ k.L,ι n] w λe w'=>(∃v,e= .returned v)/\LnX (xf N w w') w' k vo (vh s n)/\qg k.muts w w':=by
 rcases H with rfl | rfl | rfl
 ·refine(Z1 h).mono ?_;rintro e w' ⟨⟨v,rfl,_⟩,d,G⟩;exact⟨⟨v,rfl⟩,d,G⟩
 ·refine(ZZ h).mono ?_;rintro e w' ⟨⟨v,rfl,_⟩,d,G⟩;exact⟨⟨v,rfl⟩,d,G⟩
 ·refine(ZY h).mono ?_;rintro e w' ⟨⟨v,rfl,_⟩,d,G⟩;exact⟨⟨v,rfl⟩,d,G⟩
end
def zt (g b n:Int):Int×Int:=
 if 63<n-g then (n,1) else if 0<n-g then (n,bits .or .u64 (IntKind.u64.wrap (b* 2 ^ (n-g).toNat)) 1)
 else if-63<=n-g then (g,lay b (-(n-g)) 1 1) else (g,b)
def yi (g b m:Int):Bool:=decide (m<=g/\g-m<=63)&&b.toNat.testBit (g-m).toNat
theorem DV (i:Nat):Nat.testBit 1 i=decide (i=0):=by
 cases i with
 | zero=>rfl
 | succ i=>simp[Nat.testBit_succ]
theorem D7 (b:Int) (k:Nat) (H:U64 b) (N:0<k) (O:k<=63):
  U64 (bits .or .u64 (IntKind.u64.wrap (b* 2 ^ k)) 1)/\ ∀i:Nat,i<64->(bits .or .u64 (IntKind.u64.wrap (b* 2 ^ k)) 1).toNat.testBit i=(decide (i=0)||(decide (k<=i)&&b.toNat.testBit (i-k))):=by
 obtain⟨G,M⟩:=H;obtain⟨B,rfl⟩:=Int.eq_ofNat_of_zero_le G;have e:IntKind.u64.wrap ((B:Int)* 2 ^ k)=((B* 2 ^ k%2 ^ 64:Nat):Int):=by
  rw[IntKind.wrap_u64,Int.natCast_emod,Int.natCast_mul];simp
 have I:B* 2 ^ k%2 ^ 64<2 ^ 64:=Nat.mod_lt _ ζ;have d:bits .or .u64 (IntKind.u64.wrap ((B:Int)* 2 ^ k)) 1=((B* 2 ^ k%2 ^ 64||| 1:Nat):Int):=by
  rw[e,show (1:Int)=((1:Nat):Int) from rfl,u64_or_nat _ _ τ τ]
 have J:(B* 2 ^ k%2 ^ 64||| 1)<2 ^ 64:=Nat.or_lt_two_pow I ζ;rw[d];refine⟨⟨τ,τ⟩,λi hi=> ?_⟩;rw[Int.toNat_natCast,Int.toNat_natCast,Nat.testBit_or,Nat.testBit_mod_two_pow,Nat.testBit_mul_two_pow,DV];simp only[hi,decide_true,Bool.true_and];rw[Bool.or_comm]
theorem QD (g b n:Int):(zt g b n).1=max g n:=by
 unfold zt;split
 ·simp;omega
 ·split
  ·simp;omega
  ·split<;>(simp;omega)
theorem VG (g b n:Int) (d:U64 b):U64 (zt g b n).2:=by
 unfold zt;split
 ·exact⟨(by decide:(0:Int)<=1),(by decide:(1:Int)<=18446744073709551615)⟩
 ·split
  ·exact(D7 b _ d τ τ).1
  ·split
   ·exact EW _ _ _ _ d
   ·exact d
theorem EU (b k:Int) (G:U64 b) (d:0<=k/\k<=63) (i:Nat) (hi:i<64):(lay b k 1 1).toNat.testBit i=(decide (i=k.toNat)||b.toNat.testBit i):=by
 rw[Py b k 1 1 ⟨d.1,d.2,τ,τ⟩,Qa];simp only[hi,decide_true,Bool.true_and];by_cases h:i=k.toNat
 ·subst h;simp
 ·rw[if_neg (by simp;omega)];simp[h]
theorem ZR (g b n m:Int) (N:U64 b):yi (zt g b n).1 (zt g b n).2 m=(decide (m<=max g n/\max g n-m<=63)&&(decide (m=n)||yi g b m)):=by
 have M:=QD g b n;by_cases hin:m<=max g n/\max g n-m<=63
 ·rw[show yi (zt g b n).1 (zt g b n).2 m=(zt g b n).2.toNat.testBit (max g n-m).toNat from by unfold yi;rw[M];simp[hin]];simp only[hin,and_self,decide_true,Bool.true_and];unfold zt;by_cases h1:63<n-g
  ·rw[if_pos h1];have e:max g n=n:=by omega
   rw[e] at *;unfold yi;by_cases d:m=n
   ·subst d;simp
   ·have:(n-m).toNat≠0:=by omega
    simp only[d,decide_false,Bool.false_or];have I: ¬(m<=g/\g-m<=63):=by omega
    simp only[I,decide_false,Bool.false_and];rw[show (1:Int).toNat=1 from rfl,DV];simp;omega
  ·rw[if_neg h1];by_cases I:0<n-g
   ·rw[if_pos I];have e:max g n=n:=by omega
    rw[e] at *;simp only[];rw[(D7 b (n-g).toNat N τ τ).2 _ τ];unfold yi;by_cases d:m=n
    ·subst d;simp
    ·have G:(n-m).toNat≠0:=by omega
     by_cases h4:m<=g
     ·have J:(n-g).toNat<=(n-m).toNat:=by omega
      have H:m<=g/\g-m<=63:=by omega
      simp only[d,G,J,H,and_self,decide_true,decide_false,Bool.false_or,Bool.true_and];rw[show (n-m).toNat-(n-g).toNat=(g-m).toNat from by omega]
     ·have J: ¬(n-g).toNat<=(n-m).toNat:=by omega
      simp[d,G,h4,J]
   ·rw[if_neg I];have e:max g n=g:=by omega
    rw[e] at *;by_cases G: -63<=n-g
    ·rw[if_pos G,EU b _ N τ _ τ];unfold yi;have H:m<=g/\g-m<=63:=by omega
     have O:decide ((g-m).toNat=(-(n-g)).toNat)=decide (m=n):=by rw[Bool.eq_iff_iff];simp;omega
     rw[O];simp[H]
    ·rw[if_neg G];unfold yi;have d:m≠n:=by omega
     have H:m<=g/\g-m<=63:=by omega
     simp[d,H]
 ·have:yi (zt g b n).1 (zt g b n).2 m=false:=by
   unfold yi;rw[M];simp only[hin,decide_false,Bool.false_and]
  rw[this];simp only[hin,decide_false,Bool.false_and]
theorem Eb (g b c:Int) (I:U64 b) (H:U64 c) (h: ∀m,yi g b m=yi g c m):b=c:=by
 obtain⟨d,J⟩:=I;obtain⟨G,c1⟩:=H;obtain⟨B,rfl⟩:=Int.eq_ofNat_of_zero_le d;obtain⟨C,rfl⟩:=Int.eq_ofNat_of_zero_le G;have:B=C:=by
  apply BN τ τ;intro i hi;have:=h (g-i);unfold yi at this;have e:g-(i:Int)<=g/\g-(g-(i:Int))<=63:=by omega
  simp only[e,and_self,decide_true,Bool.true_and,Int.toNat_natCast] at this
  rwa [show (g-(g-(i:Int))).toNat=i from by omega] at this
 rw[this]
theorem WX {g b m:Int} (h:yi g b m=true):m<=g/\g-m<=63:=by
 unfold yi at h;simp only[Bool.and_eq_true,decide_eq_true_eq] at h;exact h.1
theorem IC (g b n:Int) (d:U64 b) (h:g-63<=n):((zt g b n).1==g&&(zt g b n).2==b)=yi g b n:=by
 have G:=QD g b n;by_cases hle:n<=g
 ·have e:(zt g b n).1=g:=by rw[G];omega
  rw[e];simp only[BEq.rfl,Bool.true_and];by_cases hk:yi g b n=true
  ·rw[hk,beq_iff_eq];apply Eb g _ _ (VG g b n d) d;intro m;have:=ZR g b n m d;rw[e] at this;rw[this];by_cases hm:m=n
   ·subst hm;rw[hk];have:=WX hk;simp;omega
   ·by_cases hkm:yi g b m=true
    ·have:=WX hkm;simp[hkm];omega
    ·simp only[Bool.not_eq_true] at hkm;simp[hm,hkm]
  ·simp only[Bool.not_eq_true] at hk;rw[hk];simp only[beq_eq_false_iff_ne,ne_eq];intro H;have:=ZR g b n n d;rw[e,H,hk] at this;simp at this;omega
 ·have e:((zt g b n).1==g)=false:=by rw[G];simp;omega
  rw[e,Bool.false_and];unfold yi;have: ¬(n<=g/\g-n<=63):=by omega
  simp[this]
theorem Gx:prog.eqGuardType prog.depth 192=false:=by kernel_rfl
end Go.Proofs.YtdgippmmaponfaaGreat
