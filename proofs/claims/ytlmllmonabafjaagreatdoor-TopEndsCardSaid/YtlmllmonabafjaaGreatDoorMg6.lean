/- Contracts of the functions that the law reaches, and plain laws; no conditions but those written at each. -/
import Derived.Test.YtlmllmonabafjaaGreatDoorMg5
import Derived.KernelRfl
namespace Go.Proofs.YtlmllmonabafjaaGreatDoor
open Go.Value renaming bool->μ,slice->δ,pointer->π,agg->θ
open Go.IntKind renaming i64->ι,u8->υ,u16->φ,u32->ω,i32->χ,u64->ψ
open _root_.Go.Proofs.Tryz
set_option linter.unusedSimpArgs false
set_option maxHeartbeats 8000000
set_option linter.unusedVariables false
open Go.RowKit
set_option maxRecDepth 100000
section
variable {N:Nat->Prop} {w w':World} {k:LnB} {vo:Value} {s s':LnS}
theorem Pv {t:TypeId} (h:w.heap[k.L]? =some (.cells (jQ k vo s) t (0,0))):w.rangeAt k.L 7 [ω s.rw.src,φ s.rw.sq,ω s.rw.st,s.rw.any,ω s.rw.last,ω s.rw.shift]:=λj v d=>by
 match j,d with
 | 0,d=>exact qb h 7 d
 | 1,d=>exact qb h 8 d
 | 2,d=>exact qb h 9 d
 | 3,d=>exact qb h 10 d
 | 4,d=>exact qb h 11 d
 | 5,d=>exact qb h 12 d
theorem Zm {P:Program} {C:World->Prop} {o:Oper} {a:Act} {w:World} {K:Act->World->Prop} (d:TypeId) (x:Operand) (N:o.op= .load d x) (b H:Nat) (U:a.eval x= π (some ⟨b,H,none⟩)) (cs:List Value) (G:TypeDesc) (I:w.rangeAt b H cs)
  (O:P.underlying d=some G) (J:G.isRow=true) (hi:(P.info? d).map (·.size)=some cs.length) (h:C w/\K (a.put o.dst (θ cs.toArray)) w):jn P C o a w K:=by
 unfold jn execOp;simp only[N,U,Instr.loadAt,Instr.sureAddr,Sem.run_bind,Sem.run_pure,Result.andThen_ok,run_loadVar_mid w b H d cs G I O J hi];exact h
theorem Zj (h:LnX N w k vo s) (G:vC s 2=false):Calls prog 138 #[γ k.L] w λe w'=>e= .returned (.tuple #[ι 0,false,false])/\qa w w':=by
 have d:=Yz h;rw[G] at d;have d:=κ d;clear G h
 go_enter func138,ntmps138
 go_wp2_with (go_at_call 74;(go_call d.o as e w1 ⟨rfl,H⟩;have I:=κ H;clear H))
 refine bodyPost_ret (v:= .tuple #[ι 0,false,false]) (by simp[results,results138,go_sem]) rfl ?_;exact⟨rfl,I.o⟩
theorem XQ (h:LnX N w k vo s) (x:ItS) (ad:Bool) (T:List (ItS×Bool)) (bY:s.B=(x,ad)::T) (X Z Q:Int) (ca:shL s.rw x.pk.st ad=X) (bm:(x.pk.st+X)%4294967296=Z) (bl:(s.rw.sq+1)%65536=Q):
  Calls prog 138 #[γ k.L] w λe w'=>e= .returned (.tuple #[ι (if s.C.length<s.room then 0 else (s.C.head?.map (·.1)).getD 0),(decide (¬s.C.length<s.room)),true])/\
   LnX (xf N w w') w' k vo {s with B:=T,rw:=⟨s.rw.src,Q,s.rw.st,true,Z,X⟩,C:=if s.C.length<s.room then s.C++[(x.id,pkB {x.pk with sq:=s.rw.sq,st:=Z,sc:=s.rw.src})] else s.C.tail++[(x.id,pkB {x.pk with sq:=s.rw.sq,st:=Z,sc:=s.rw.src})]}/\qg N w w':=by
 have Y:=κ h;have aF:=Yz h;have cc:vC s 2=true:=by
  show decide (0<s.B.length)=true;rw[bY];simp
 rw[cc] at aF;have aF:=κ aF;have cJ:=κ (λ(mr:Bool) (ty q so:Int) (w:World)=>AI s.rw.src s.rw.sq s.rw.st s.rw.last s.rw.shift s.rw.any ad mr ty q x.pk.st so w X ca Z bm Q bl);have cX:U32 Z:=by rw[<-bm];exact⟨τ,τ⟩
 have cW:U16 Q:=by rw[<-bl];exact⟨τ,τ⟩
 obtain⟨aN,dz,bQ,cO,bN,bP,cQ,ay,be⟩:=h.r2;rw[bY] at be;obtain⟨c,q,rfl,aI,bM⟩:=be.uncons;have AQ:=κ bM;obtain⟨dD,dB,vp,rfl,⟨⟨os,I,rfl,_⟩,⟨J,ke,rfl,_⟩,⟨O,H,rfl,_⟩⟩,aa,cj⟩:=aI.read;have aQ: ∀w',qg (lnE N k vo) w w'->PkS w' (δ os x.pk.ss.length I) (δ J x.pk.ex.length ke) (δ O x.pk.pl.length H) x.pk:=λw' a=>by
  obtain⟨dE,dC,vp',e,cf,_⟩:=aI w' a;simp[itC] at e;obtain⟨ax,aL,aM⟩:=e;rw[<-ax,<-aL,<-aM] at cf;exact cf
 have bn:uf {x.pk with sq:=s.rw.sq,st:=Z,sc:=s.rw.src}:=⟨aa.ty,h.ok.sq,cX,h.ok.src,aa.ss,aa.pr,aa.ex,aa.pl⟩;have bq:jJ {x.pk with sq:=s.rw.sq,st:=Z,sc:=s.rw.src}=true:=cj;have cD:Hid (∀w',qg (lnE N k vo) w w'->Calls prog 37 #[θ #[μ x.pk.mr,υ x.pk.ty,φ s.rw.sq,ω Z,ω s.rw.src,δ os x.pk.ss.length I,x.pk.has,φ x.pk.pr,δ J x.pk.ex.length ke,δ O x.pk.pl.length H]] w' λe w''=>(∃v,e= .returned (.tuple #[v,ι 0])/\w''.ownsRow w'.heap.size 5 1 v (pkB {x.pk with sq:=s.rw.sq,st:=Z,sc:=s.rw.src}).length ((pkB {x.pk with sq:=s.rw.sq,st:=Z,sc:=s.rw.src}).map (Value.int .u8)))/\qa w' w''):=
  κ λw' a=>gi {x.pk with sq:=s.rw.sq,st:=Z,sc:=s.rw.src} _ _ _ w' ⟨(aQ w' a).s,(aQ w' a).e,(aQ w' a).l⟩ bn bq
 have aX:Hid ((pkB {x.pk with sq:=s.rw.sq,st:=Z,sc:=s.rw.src}).length<=200/\Byt (pkB {x.pk with sq:=s.rw.sq,st:=Z,sc:=s.rw.src})):=κ ⟨by
  have cT:=Ey {x.pk with sq:=s.rw.sq,st:=Z,sc:=s.rw.src};have cU:=((yq _).1 bq).2.2.2.2
  omega,Iy bn⟩
 clear aQ aa bn cj bq ca bm bl;generalize pkB {x.pk with sq:=s.rw.sq,st:=Z,sc:=s.rw.src}=body at *;obtain⟨dg,bs⟩:=ν ((if s.C.length<s.room then 0 else (s.C.head?.map (·.1)).getD 0));obtain⟨df,bp⟩:=ν (decide (¬s.C.length<s.room));obtain⟨dA,bo⟩:=ν ((if s.C.length<s.room then s.C++[(x.id,body)] else s.C.tail++[(x.id,body)]));rw[bs,bp,bo];have cI:=κ bs;have cH:=κ bp;have cG:=κ bo;clear bs bp bo;simp only[itC,List.cons_append,List.nil_append] at aI ay;have cz:=κ ay;have ds:k.R2<w.heap.size:=qn ay.ring;have dn:k.A2<w.heap.size:=qn ay.row;have ae:=κ h.dist;clear h cc ay aI bM be
 go_enter func138,ntmps138
 go_wp2_with (first | (go_at_call 74;(go_call aF.o as e w1 ⟨rfl,aA⟩;have cK:=κ aA;have bD:=κ (qc aA Y.o.blk);have dG:Hid (w.heap.size<=w1.heap.size):=κ aA.size;have cy:=κ (cz.o.more aA);clear aA;have c2:w1.cell? ⟨k.L,2,none⟩=some (π (some ⟨k.R2,0,none⟩)):=qb bD.o 2 rfl)) | (go_at_call 200;(go_call Nc w1 k.R2 k.A2 s.room aN _ q bQ cO bN bP cQ cy.o as e w2 ⟨rfl,⟨cP,bW⟩,bf⟩;have cA:=κ bW;have A2:Hid (qg (RgB k.R2 k.A2) w w2):=κ ((qg.of_more cK.o).trans bf);have aS:Hid (w2.heap[k.L]? =some (.cells (jQ k vo s) 153 (0,0))):=κ (bf.blk bD.o (by obtain⟨⟨ag,ao,ah,ai,_⟩,_⟩:=ae.o;rintro(e | e)<;>omega));clear bW bf)))
 obtain⟨ac,az⟩:=ν ((w2.alloc (.cells (Γk x os I J ke O H ad) 255)).alloc (.cells (Γh x.pk os I J ke O H) 63));have aZ:Hid (qa w2 ac):=κ (by rw[<-az];exact(qa.alloc _ _).al _);have bc:Hid (ac.heap[w2.heap.size]? =some (.cells (Γk x os I J ke O H ad) 255 (0,0))):=κ (by rw[<-az];exact qs (qj w2 _) _);have bb:Hid (ac.heap[w2.heap.size+1]? =some (.cells (Γh x.pk os I J ke O H) 63 (0,0))):=κ (by rw[<-az];exact qC η);have aT:=κ (qc aZ.o aS.o);rw[az];clear az;have cu: ¬w2.heap.size=k.L:=by have:=qn aS.o;omega
 have bu: ¬w2.heap.size+1=k.L:=by have:=qn aS.o;omega
 have bH: ∀y:qz (λb=>b=k.L) ac,y.w'.rangeAt (w2.heap.size+1) 0 [μ x.pk.mr,υ x.pk.ty,φ x.pk.sq,ω x.pk.st,ω x.pk.sc]:=λy=>by
  have:=xy (cs:=(Γh x.pk os I J ke O H)) (y.h.blk bb.o bu);intro j v aq;refine this j v ?_;have cY:=(List.getElem?_eq_some_iff.1 aq).1;rw[<-aq];exact List.getElem?_append_left (l₁:=[μ x.pk.mr,υ x.pk.ty,φ x.pk.sq,ω x.pk.st,ω x.pk.sc]) (l₂:=[δ os x.pk.ss.length I,x.pk.has,φ x.pk.pr,δ J x.pk.ex.length ke,δ O x.pk.pl.length H]) cY
 have cN: ∀y:qz (λb=>b=k.L) ac,y.w'.cell? ⟨w2.heap.size,13,none⟩=some (μ ad):=λy=>qb (y.h.blk bc.o cu) 13 rfl
 refine zp (λb=>b=k.L) ac 17 [(0,false),(1,false),(2,false),(3,false),(5,false),(6,false),(7,false),(8,false),(4,true),(9,true),(10,false),(11,false),(12,false),(13,false),(14,false),(15,true),(16,false),(17,true)] ξ ξ ?_
 refine Qs5 ?_
 refine jh rfl rfl (qi σ) 60 (.tmp 33) rfl (w2.heap.size+1) 0 rfl [μ x.pk.mr,υ x.pk.ty,φ x.pk.sq,ω x.pk.st,ω x.pk.sc] _ (λw' dd=>by obtain⟨y,rfl⟩:=dd;exact bH y) underlying60 rfl ξ ?_;intro K d;go_simp;refine d _ ?_;clear d K
 refine Qs2 ?_
 refine jR rfl rfl ?_;intro K d;refine Zm 149 (.tmp 31) rfl k.L 7 rfl [ω s.rw.src,φ s.rw.sq,ω s.rw.st,s.rw.any,ω s.rw.last,ω s.rw.shift] _ (Pv (qr aT.o 1)) underlying149 rfl ξ ?_;refine⟨qi σ, ?_⟩;go_simp;refine d _ _ ?_;clear d K
 (refine Ql ?_;intro K d)
 go_call cJ.o _ _ _ _ _ as e w5 ⟨rfl,cq⟩;have af:Hid (qa ac w5):=κ ((qa.drewN _ 1).trans cq);clear cq;have aU:=κ (qc af.o aT.o);have bI:=κ (qc af.o bb.o);have bK:=κ (qc af.o bc.o);refine⟨_,rfl,qi (qg.of_more af.o),d _ _ ?_⟩;clear d K bH cN
 iterate 5 (refine qE rfl rfl (qi (qg.of_more af.o)) ?_;intro K d;go_big_quiet_op;go_big_quiet_on)
 refine jR rfl rfl ?_;intro K d;refine zF 149 (.tmp 41) (.tmp 38) rfl k.L 7 153 _ [ω s.rw.src,φ Q,ω s.rw.st,true,ω Z,ω X] rfl rfl aU.o (by show 7+6<=16;decide) ξ (by simp[Value.oneCell']) ?_;have aj:Hid (qg (λb=>b=k.L) ac (w5.setRow k.L (xQ (jQ k vo s).toList 7 [ω s.rw.src,φ Q,ω s.rw.st,true,ω Z,ω X]).toArray)):=κ ((qg.of_more (S:=λb=>b=k.L) af.o).row (g:=k.L) rfl _);have aV:Hid ((w5.setRow k.L (xQ (jQ k vo s).toList 7 [ω s.rw.src,φ Q,ω s.rw.st,true,ω Z,ω X]).toArray).heap[k.L]? =some (.cells (jQ k vo {s with rw:=⟨s.rw.src,Q,s.rw.st,true,Z,X⟩}) 153 (0,0))):=κ (qB (jY aU.o _) rfl);have aH:Hid ((w5.setRow k.L (xQ (jQ k vo s).toList 7 [ω s.rw.src,φ Q,ω s.rw.st,true,ω Z,ω X]).toArray).heap[w2.heap.size+1]? =some (.cells (Γh x.pk os I J ke O H) 63 (0,0))):=κ (qS bI.o _ bu);have bd:Hid ((w5.setRow k.L (xQ (jQ k vo s).toList 7 [ω s.rw.src,φ Q,ω s.rw.st,true,ω Z,ω X]).toArray).heap[w2.heap.size]? =some (.cells (Γk x os I J ke O H ad) 255 (0,0))):=κ (qS bK.o _ cu);obtain⟨w6,ck⟩:=ν (w5.setRow k.L (xQ (jQ k vo s).toList 7 [ω s.rw.src,φ Q,ω s.rw.st,true,ω Z,ω X]).toArray);rw[ck] at aj aV aH bd ⊢;clear ck aU bI bK af;refine⟨qi aj.o, ?_⟩;go_simp;refine d _ _ ?_;clear d K
 iterate 1 (refine qE rfl rfl (qi aj.o) ?_;intro K d;go_big_quiet_op;go_big_quiet_on)
 refine zY rfl rfl ζ ?_;intro K d;refine zF 60 (.tmp 42) (.tmp 39) rfl (w2.heap.size+1) 0 63 _ [μ x.pk.mr,υ x.pk.ty,φ s.rw.sq,ω Z,ω s.rw.src] rfl rfl aH.o (by show 0+5<=10;decide) ξ (by simp[Value.oneCell']) ?_;have au:Hid (qg (λb=>b=k.L∨RgB k.R2 k.A2 b) w (w6.setRow (w2.heap.size+1) (xQ ((Γh x.pk os I J ke O H):Array Value).toList 0 [μ x.pk.mr,υ x.pk.ty,φ s.rw.sq,ω Z,ω s.rw.src]).toArray)):=κ ((((A2.o.mono λb G=>Or.inr G).more aZ.o).trans (aj.o.mono λb G=>Or.inl G)).rowNew (by have:=A2.o.size;omega) _);have bE:Hid ((w6.setRow (w2.heap.size+1) (xQ ((Γh x.pk os I J ke O H):Array Value).toList 0 [μ x.pk.mr,υ x.pk.ty,φ s.rw.sq,ω Z,ω s.rw.src]).toArray).heap[k.L]? =some (.cells (jQ k vo {s with rw:=⟨s.rw.src,Q,s.rw.st,true,Z,X⟩}) 153 (0,0))):=κ (qS aV.o _ (λe=>bu e.symm));have bJ:Hid ((w6.setRow (w2.heap.size+1) (xQ ((Γh x.pk os I J ke O H):Array Value).toList 0 [μ x.pk.mr,υ x.pk.ty,φ s.rw.sq,ω Z,ω s.rw.src]).toArray).heap[w2.heap.size+1]? =some (.cells #[μ x.pk.mr,υ x.pk.ty,φ s.rw.sq,ω Z,ω s.rw.src,δ os x.pk.ss.length I,x.pk.has,φ x.pk.pr,δ J x.pk.ex.length ke,δ O x.pk.pl.length H] 63 (0,0))):=κ (qB (jY aH.o _) rfl);have bL:Hid ((w6.setRow (w2.heap.size+1) (xQ ((Γh x.pk os I J ke O H):Array Value).toList 0 [μ x.pk.mr,υ x.pk.ty,φ s.rw.sq,ω Z,ω s.rw.src]).toArray).heap[w2.heap.size]? =some (.cells (Γk x os I J ke O H ad) 255 (0,0))):=κ (qS bd.o _ τ);have bG:Hid (qN 14 330 255 (w6.setRow (w2.heap.size+1) (xQ ((Γh x.pk os I J ke O H):Array Value).toList 0 [μ x.pk.mr,υ x.pk.ty,φ s.rw.sq,ω Z,ω s.rw.src]).toArray) k.R2 k.A2 s.room ((aN+1)%s.room) q bQ cP bN bP _):=κ (((cA.o.more aZ.o).away aj.o (by obtain⟨⟨ag,ao,ah,ai,_⟩,_⟩:=ae.o;exact Ne.symm ah) (by obtain⟨⟨ag,ao,ah,ai,_⟩,_⟩:=ae.o;exact Ne.symm ai)).away (xb _ _ _) (λe=>by have:=A2.o.size;omega) (λe=>by have:=A2.o.size;omega));obtain⟨W7,bZ⟩:=ν (w6.setRow (w2.heap.size+1) (xQ ((Γh x.pk os I J ke O H):Array Value).toList 0 [μ x.pk.mr,υ x.pk.ty,φ s.rw.sq,ω Z,ω s.rw.src]).toArray);rw[bZ] at au bE bJ bL bG ⊢;clear bZ aj aV aH bd bb bc aT;refine⟨trivial, ?_⟩;go_simp;refine d _ _ ?_;clear d K;refine qA ?_;have cv:Hid (qg (lnE N k vo) w W7):=κ (au.o.mono λb G=>kZ (by rcases G with e | e;exact Or.inl e;exact Or.inr (Or.inr (Or.inl e))))
 go_wp2_with (first | (refine yL (.load 63 (.tmp 7)) rfl ?_;refine vO rfl 63 (.tmp 7) rfl (w2.heap.size+1) 63 _ _ bJ.o rfl underlying63 rfl ξ ?_) | (go_at_call 37;(go_call cD.o _ cv.o as e w8 ⟨⟨v8,rfl,aR⟩,cr⟩;have ba:=κ aR;have aG:=κ cr;have cL:=κ (SlI.of_owns aR (by have:=aX.o.1;omega));obtain⟨aJ,aK,rfl⟩:=VI aR;clear aR cr)))
 obtain⟨aO,aB,bR,bi,bO,bh,bS,aP,a3⟩:=Y.o.r3;have bz:Hid (qg (λb=>b=k.L∨RgB k.R2 k.A2 b) w w8):=κ (au.o.more aG.o);have bF:=κ (qc aG.o bE.o);have cM:=κ (qc aG.o bL.o);have cB:=κ (bG.o.more aG.o);have bA:=κ a3;have ci:aB.length=s.C.length:=a3.len;have dt:k.R3<w.heap.size:=qn aP.ring;have dp:k.A3<w.heap.size:=qn aP.row;have dH:w.heap.size<=w2.heap.size:=A2.o.size;have aw:Hid (qN 2 332 56 w8 k.R3 k.A3 s.room aO aB bR bi bO bh bS):=κ (aP.away bz.o (by obtain⟨⟨ag,ao,ah,ai,bj,bk⟩,⟨ax,aL,aM,bU,bV⟩,⟨aN,cR,aO,cS⟩,⟨cl,cm,cn⟩,⟨co,cp⟩,_⟩:=ae.o;rintro(e | e | e)<;>omega) (by obtain⟨⟨ag,ao,ah,ai,bj,bk⟩,⟨ax,aL,aM,bU,bV⟩,⟨aN,cR,aO,cS⟩,⟨cl,cm,cn⟩,⟨co,cp⟩,_⟩:=ae.o;rintro(e | e | e)<;>omega));obtain⟨ar,bv,bw,op,ce,cg⟩:=Pc w8 k.R3 k.A3 s.room aO aB bR bi bO bh bS aw.o (UJ a3) [ι x.id,δ aJ body.length aK] ⟨rfl,by simp[Value.oneCell']⟩;have aY:=κ cg;have cF:=κ ce;clear cg ce aP a3;generalize cb:decide (¬aB.length<s.room)=dr at aY;have cE:=κ cb;clear cb;have ct: ¬RgB k.R3 k.A3 k.L:=by
  obtain⟨⟨ag,ao,ah,ai,bj,bk⟩,_⟩:=ae.o;rintro(e | e)<;>omega
 have de: ¬RgB k.R3 k.A3 w2.heap.size:=by rintro(e | e)<;>omega
 go_cut [10,11,12] from 48 (λdh di dj bx=> ∃C,dh= γ C/\di= μ dr/\dj= ι 0/\bx.heap[C]? =some (.cells #[ι ar,δ bv bw op] 56 (0,0))/\qg (RgB k.R3 k.A3) w8 bx/\ ∃ap am ak an,qN 2 332 56 bx k.R3 k.A3 s.room ap (vE s.room aB [ι x.id,δ aJ body.length aK]) am bi ak bh an)
 case first=>
  have dk: ∀y:qz (RgB k.R3 k.A3) w8,y.w'.cell? ⟨k.L,3,none⟩=some (π (some ⟨k.R3,0,none⟩)):=λy=>qb (y.h.blk bF.o ct) 3 rfl
  have dl: ∀y:qz (RgB k.R3 k.A3) w8,y.w'.cell? ⟨w2.heap.size,0,none⟩=some (ι x.id):=λy=>qb (y.h.blk cM.o de) 0 rfl
  refine wC (RgB k.R3 k.A3) w8 18 (.op 0 false (.op 1 false (.op 2 false (.op 3 false (.op 4 false (.op 5 false (.op 6 false (.op 7 false (.op 8 false (.br [9,14] λk=>if k=9 then .op 10 false (.op 11 false (.op 12 false (.op 13 false (.op 14 true (.op 15 true (.op 16 false (.op 17 false (.done)))))))) else .op 9 true (.op 10 false (.op 11 false (.op 12 false (.op 13 false (.op 15 true (.op 16 false (.op 17 false (.done)))))))))))))))))) ξ ξ ?_
  repeat (first | (refine jg rfl rfl (qi σ) ?_) | (refine qH rfl rfl (qi σ) ?_;intro K d;go_big_quiet_op;go_big_quiet_on))
  refine wP ζ ?_ ?_
  ·(refine qO rfl rfl ?_;intro K d;unfold jn;go_simp)
   go_call aY.o _ (aw.o.more (qa.drewN w8 1)) as e w9 ⟨rfl,ab,a9⟩;have U:Hid (qg (RgB k.R3 k.A3) w8 w9):=κ (((qg.refl _ _).drewN 1).trans a9);have aW:=κ ab;clear a9 ab;refine⟨_,rfl,qi U.o,d _ _ ?_⟩;clear d K
   repeat (first | (refine jg rfl rfl (qi U.o) ?_) | (refine qH rfl rfl (qi U.o) ?_;intro K d;go_big_quiet_op;go_big_quiet_on))
   (refine qO rfl rfl ?_;intro K d;unfold jn;go_simp)
   refine⟨qi (U.o.alc _),d _ _ ?_⟩;clear d K
   (refine qO rfl rfl ?_;intro K d;unfold jn;go_simp)
   refine⟨qi (U.o.alc _),d _ _ ?_⟩;clear d K
   repeat (first | (refine jg rfl rfl (qi (U.o.alc _)) ?_) | (refine qH rfl rfl (qi (U.o.alc _)) ?_;intro K d;go_big_quiet_op;go_big_quiet_on))
   refine zg ?_;go_wp2;go_meet;obtain⟨ap,am,ak,an,ab⟩:=aW.o;exact⟨_,rfl,rfl,rfl,qj w9 _,U.o.alc _,ap,am,ak,an,ab.more (qa.alloc _ _)⟩
  ·(refine qO rfl rfl ?_;intro K d;unfold jn;go_simp)
   refine⟨qi (((qg.refl _ w8).drewN 1).alc _),d _ _ ?_⟩;clear d K
   (refine qO rfl rfl ?_;intro K d;unfold jn;go_simp)
   go_call aY.o _ (aw.o.more ((qa.drewN w8 1).al _)) as e w9 ⟨rfl,ab,a9⟩;have U:Hid (qg (RgB k.R3 k.A3) w8 w9):=κ ((((qg.refl _ _).drewN 1).alc _).trans a9);have aW:=κ ab;have du:k.R3<w8.heap.size:=qn aw.o.ring;have dq:k.A3<w8.heap.size:=qn aw.o.row;have av:Hid (w9.heap[w8.heap.size]? =some (.cells Γs 56 (0,0))):=κ (a9.blk (qC rfl) (by rintro(e | e)<;>omega));clear a9 ab;have dm:w9.cell? ⟨w8.heap.size,0,none⟩=some (ι 0):=qb av.o 0 rfl;have ag:w9.cell? ⟨w8.heap.size,1,none⟩=some (δ none 0 0):=qb av.o 1 rfl;have e0:w9.frozen? ⟨w8.heap.size,0,none⟩=false:=qd av.o 0;have ax:w9.frozen? ⟨w8.heap.size,1,none⟩=false:=qd av.o 1;refine⟨_,rfl,qi U.o,d _ _ ?_⟩;clear d K
   repeat (first | (refine jg rfl rfl (qi U.o) ?_) | (refine qH rfl rfl (qi U.o) ?_;intro K d;go_big_quiet_op;go_big_quiet_on))
   (refine qO rfl rfl ?_;intro K d;unfold jn;go_simp)
   have aC:qg (RgB k.R3 k.A3) w8 ((w9.setCell ⟨w8.heap.size,0,none⟩ (ι ar)).setCell ⟨w8.heap.size,1,none⟩ (δ bv bw op)):=(U.o.setNew (Nat.le_refl _) _).setNew (Nat.le_refl _) _;have cw:qg (λb=>b=w8.heap.size) w9 ((w9.setCell ⟨w8.heap.size,0,none⟩ (ι ar)).setCell ⟨w8.heap.size,1,none⟩ (δ bv bw op)):=((qg.refl (λb=>b=w8.heap.size) w9).set (p:=⟨w8.heap.size,0,none⟩) rfl _).set (p:=⟨w8.heap.size,1,none⟩) rfl _;refine⟨qi aC,d _ _ ?_⟩;clear d K
   repeat (first | (refine jg rfl rfl (qi aC) ?_) | (refine qH rfl rfl (qi aC) ?_;intro K d;go_big_quiet_op;go_big_quiet_on))
   refine zg ?_;go_wp2;go_meet;obtain⟨ap,am,ak,an,ab⟩:=aW.o;exact⟨_,rfl,rfl,rfl,qB (qp (qp av.o 0 _) 1 _) rfl,aC,ap,am,ak,an,ab.away cw τ τ⟩
 case rest=>
 obtain⟨C,rfl,rfl,rfl,bT,bg,ap,am,ak,an,bX⟩:=hcut;have aE:=κ bg;have cC:=κ bX;have cx:Hid (wc.heap[k.L]? =some (.cells (jQ k vo {s with rw:=⟨s.rw.src,Q,s.rw.st,true,Z,X⟩}) 153 (0,0))):=κ (bg.blk bF.o ct);have dF:wc.cell? ⟨C,0,none⟩=some (ι ar):=qb bT 0 rfl;clear bg bX bT;go_wp2;refine bodyPost_ret (v:= .tuple #[ι ar,dr,true]) (by simp[results,results138,go_sem]) rfl ?_;obtain⟨⟨ag,ao,ah,ai,bj,bk⟩,⟨ax,aL,aM,bU,bV⟩,⟨dv,dw,dx,dy⟩,⟨cl,cm,cn⟩,⟨co,cp⟩,_⟩:=ae.o;have bC:qg (λb=>b=k.L∨RgB k.R2 k.A2 b∨RgB k.R3 k.A3 b) w wc:=(bz.o.mono λb G=>by rcases G with e | e;exact Or.inl e;exact Or.inr (Or.inl e)).trans (aE.o.mono λb G=>Or.inr (Or.inr G));have cd: ∀b,(b=k.L∨RgB k.R2 k.A2 b∨RgB k.R3 k.A3 b)->k.muts b:=λb G=>by rcases G with e | e | e;exact Or.inl e;exact Or.inr (Or.inr (Or.inl e));exact Or.inr (Or.inr (Or.inr e))
 have aD:qg k.muts w wc:=bC.mono cd;have bB:qg (lnM k vo) w wc:=aD.mono λb G=>Or.inl G
 have aq: ∀b,vo.ownBlock=some b->vo.ownBlock=some b∨w.heap.size<=b:=λb G=>Or.inl G
 have cV: ∀b,(b=k.L∨RgB k.R2 k.A2 b∨RgB k.R3 k.A3 b)->lnE N k vo b:=λb G=>kZ (cd b G)
 have aa:=Y.o.ok;have cZ:jw ROu (lnE (xf N w wc) k vo) wc [ι x.id,δ aJ body.length aK] (x.id,body):=λw'' a=>by
  refine⟨_,rfl, ?_,aX.o.2,aX.o.1⟩
  have dc:SlI .u8 wc (δ aJ body.length aK) body:=cL.o.off (λb e G=>by
   have cT:=um ba.o e;have cU:=au.o.size
   rcases G with G | G<;>omega) aE.o
  refine Y.o.fresh (vo':=vo) dc (λb e=>⟨Nat.le_trans au.o.size (um ba.o e),Nat.lt_of_lt_of_le (Vg ba.o e) aE.o.size⟩) (λb e=>e) a
 have ch:=DY (R:=ROu) (D:=lnE (xf N w wc) k vo) (w:=wc) (room:=s.room) (bA.o.mono λc y bt=>Y.o.held bt bB aq) cZ;have da:ar=dg:=by rw[cF.o,ci,Pg bA.o];exact cI.o
 have db:dr=df:=by rw[<-cE.o,ci];exact cH.o
 rw[cG.o] at ch;rw[<-da,<-db];refine⟨rfl,Y.o.make aD.size cx.o (Y.o.r1.step bC (by rintro(e | (e | e) | (e | e))<;>omega) (by rintro(e | (e | e) | (e | e))<;>omega) cV λb G=>Or.inl (xE Y.o.own aq G)) ⟨_,_,_,_,_,_,_,cB.o.away aE.o (by rintro(e | e)<;>omega) (by rintro(e | e)<;>omega),AQ.o.mono λc y bt=>Y.o.held bt bB aq⟩ ⟨_,_,_,_,_,_,_,cC.o,ch⟩ (Y.o.rows aD) ⟨aa.most,aa.row,aa.lt,cW,aa.src⟩,aD.mono λb G=>Y.o.muts b G⟩
theorem Uu (h:LnX N w k vo s):Calls prog 138 #[γ k.L] w λe w'=>e= .returned (.tuple #[ι (qY s).2.1,μ (qY s).2.2.1,μ (qY s).2.2.2])/\LnX (xf N w w') w' k vo (qY s).1/\qg N w w':=by
 cases hB:s.B with
 | nil=>
  have e:qY s=(s,0,false,false):=by unfold qY;rw[hB]
  rw[e];refine(Zj h (by show decide (0<s.B.length)=false;rw[hB];rfl)).mono ?_;rintro e w' ⟨rfl,m⟩;exact⟨rfl,h.grow m,qg.of_more m⟩
 | cons y T=>
  obtain⟨x,d⟩:=y;have e:qY s=((vf {s with B:=T,rw:=ul s.rw x.pk d} (x.id,pkB (kY s.rw x.pk d))).1,(vf {s with B:=T,rw:=ul s.rw x.pk d} (x.id,pkB (kY s.rw x.pk d))).2.1,(vf {s with B:=T,rw:=ul s.rw x.pk d} (x.id,pkB (kY s.rw x.pk d))).2.2,true):=by unfold qY;rw[hB]
  rw[e];have G:=XQ h x d T hB (shL s.rw x.pk.st d) ((x.pk.st+shL s.rw x.pk.st d)%4294967296) ((s.rw.sq+1)%65536) rfl rfl rfl;by_cases hc:s.C.length<s.room
  ·have H:vf {s with B:=T,rw:=ul s.rw x.pk d} (x.id,pkB (kY s.rw x.pk d))=({s with B:=T,rw:=ul s.rw x.pk d,C:=s.C++[(x.id,pkB (kY s.rw x.pk d))]},0,false):=by unfold vf;rw[if_pos hc]
   rw[H];simp only[hc,if_true,not_true,decide_false] at G;exact G
  ·have H:vf {s with B:=T,rw:=ul s.rw x.pk d} (x.id,pkB (kY s.rw x.pk d))=({s with B:=T,rw:=ul s.rw x.pk d,C:=s.C.tail++[(x.id,pkB (kY s.rw x.pk d))]},(s.C.head?.map (·.1)).getD 0,true):=by unfold vf;rw[if_neg hc]
   rw[H];simp only[hc,if_false,not_false_iff,decide_true] at G;exact G
end
theorem xN {P:Program} {ops:Array Oper} {rest:List Oper} {op:Oper} {a:Act} {w:World} {Q:Exit->Act->World->Prop} (U:Region.wanted op (yielded ops a.tmps)=true) (d:TypeId) (x:Operand) (N:op.op= .load d x)
  (b o:Nat) (Y:a.eval x= π (some ⟨b,o,none⟩)) (cs:List Value) (G:TypeDesc) (I:w.rangeAt b o cs)
  (O:P.underlying d=some G) (J:G.isRow=true) (hi:(P.info? d).map (·.size)=some cs.length)
  (h:wpList P ops Q rest (a.put op.dst (θ cs.toArray)) w):wpList P ops Q (op::rest) a w:=
 wpList_step λK H=>by
  rw[if_pos U];exact wp_load_mid d x N b o Y cs G I O J hi (H _ _ h)
theorem ku {w:World} {b t:Nat} {a0 d G:Value} {cs:List Value} (h:w.heap[b]? =some (.cells (a0::d::G::cs).toArray t (0,0))):w.rangeAt b 3 cs:=λj v H=>by
 rw[cell_of_row w b (3+j) _ t (0,0) h,List.getElem?_toArray,show 3+j=j+1+1+1 by omega]
 simpa using H
theorem Km {D:Nat->Prop} {w:World} {q:List (List Value)} {l:List ItS} (a:zb (jw RIt D w) q l): ∀c∈q,∃(y:ItS) (G H J:Option Addr) (an d bn I cn N:Nat),c=[ι y.id,ι y.layer,y.key,y.pk.mr,υ y.pk.ty,φ y.pk.sq,ω y.pk.st,ω y.pk.sc,δ G an d,y.pk.has,φ y.pk.pr,δ H bn I,δ J cn N]:=λc O=>by
 obtain⟨y,_,U⟩:=a.mem c O;obtain⟨aa,Y,vp,rfl,⟨⟨G,d,rfl,_⟩,⟨H,I,rfl,_⟩,⟨J,N,rfl,_⟩⟩,_⟩:=U.read;exact⟨y,G,H,J,_,d,_,I,_,N,rfl⟩
theorem UQ {D:Nat->Prop} {w:World} {q:List (List Value)} {l:List ItS} (a:zb (jw RIt D w) q l):(q.head?.map idN).getD 0=(l.head?.map (·.id)).getD 0:=by
 cases l with
 | nil=>rw[a.nil_r];rfl
 | cons o l=>
  obtain⟨c,q',rfl,d,_⟩:=a.uncons;obtain⟨H,G,vp,rfl,_⟩:=d.read;rfl
theorem Pd (am:World) (R A room f:Nat) (q:List (List Value)) (ad ab ac O:Int) (css:List (List Value)) (ai:qN 13 327 253 am R A room f q ad ab ac O css)
  (al: ∀c∈q,∃(y:ItS) (H I U:Option Addr) (G d N J aa Y:Nat),c=[ι y.id,ι y.layer,y.key,y.pk.mr,υ y.pk.ty,φ y.pk.sq,ω y.pk.st,ω y.pk.sc,δ H G d,y.pk.has,φ y.pk.pr,δ I N J,δ U aa Y]) (x:List Value) (ak:x.length=13/\ ∀u∈x,u.oneCell'=true):
  ∃(y:ItS) (H I U:Option Addr) (G d N J aa Y:Nat),(y.id=if q.length<room then 0 else (q.head?.map idN).getD 0)/\
  ∀w,qN 13 327 253 w R A room f q ad ab ac O css->Calls prog 196 #[γ R,θ x.toArray] w λe w'=>e= .returned (.tuple #[θ #[ι y.id,ι y.layer,y.key,y.pk.mr,υ y.pk.ty,φ y.pk.sq,ω y.pk.st,ω y.pk.sc,δ H G d,y.pk.has,φ y.pk.pr,δ I N J,δ U aa Y],(decide (¬q.length<room)),ι 0])/\
   (∃f' ae ah css',qN 13 327 253 w' R A room f' (vE room q x) ae ab ah O css')/\qg (RgB R A) w w':=by
 by_cases hq:q.length<room
 ·refine⟨⟨0,0,false,pk0⟩,none,none,none,0,0,0,0,0,0,by rw[if_pos hq],λw h=> ?_⟩;have af:decide (¬q.length<room)=false:=by simp[hq]
  have ag:vE room q x=q++[x]:=by unfold vE;rw[if_pos hq]
  rw[af,ag];refine(UF w R A room f q ad ab ac O css h hq x ak).mono ?_;rintro e w' ⟨rfl,⟨ae,g⟩,a⟩;exact⟨rfl,⟨_,_,_,_,g⟩,a⟩
 ·have an:=ai.fits;have ao:=ai.pos;cases q with
  | nil=>simp at hq;omega
  | cons c T=>
   obtain⟨y,H,I,U,G,d,N,J,aa,Y,aj⟩:=al c η;refine⟨y,H,I,U,G,d,N,J,aa,Y,by rw[if_neg hq,aj];rfl,λw h=> ?_⟩;have af:decide (¬(c::T).length<room)=true:=by simpa using hq
   have ag:vE room (c::T) x=T++[x]:=by unfold vE;rw[if_neg hq];rfl
   rw[af,ag];refine(UG w R A room f c T ad ab ac O css h τ x ak).mono ?_;rintro e w' ⟨rfl,⟨ae,ah,g⟩,a⟩;exact⟨by rw[aj],⟨_,_,_,_,g⟩,a⟩
section
variable {N:Nat->Prop} {w w':World} {k:LnB} {vo:Value} {s s':LnS}
theorem Qt (h:LnX N w k vo s) (x:ItS) (os I J:Option Addr) (G ke d:Nat) (aj:PkS w (δ os x.pk.ss.length G) (δ I x.pk.ex.length ke) (δ J x.pk.pl.length d) x.pk) (ak:uj x.pk) (n:Int)
  (ao:(jj x.layer=false/\n=1)∨(jj x.layer=true/\jJ x.pk=false/\n=1)∨(jj x.layer=true/\jJ x.pk=true/\s.gone=true/\n=7)∨(jj x.layer=true/\jJ x.pk=true/\s.gone=false/\s.wanted=false/\n=5)):
  Calls prog 136 #[γ k.L,(Γj x os G I ke J d)] w λe w'=>e= .returned (.tuple #[ι 0,false,ι n])/\qa w w':=by
 have aa:Hid (∀w',qa w w'->Calls prog 92 #[(Γh x.pk os G I ke J d)] w' λe w''=>e= .returned (μ (jJ x.pk))/\qa w' w''):=κ λw' m=>gc x.pk _ _ _ w' (aj.keep m) ak
 have ae:=κ λ(w':World) (m:qa w w')=>gF (h.on m)
 have am:=κ h;clear h aj ak;rcases ao with ⟨O,rfl⟩ | ⟨O,Y,rfl⟩ | ⟨O,Y,ac,rfl⟩ | ⟨O,Y,ac,al,rfl⟩
 ·have ab:=κ O;clear O
  go_enter func136,ntmps136
  go_wp2_with (first | (go_at_call 151;(go_call xX x.layer _ as e w1 ⟨rfl,ai⟩;subst w1;rw[ab.o])) | (refine yL (.load 63 (.tmp 15)) rfl ?_;refine xN rfl 63 (.tmp 15) rfl w.heap.size 3 rfl (Γh x.pk os G I ke J d) _ (ku (qj w (.cells (Γj x os G I ke J d) 253))) underlying63 rfl ξ ?_) | (go_at_call 92;(go_call aa.o _ (qa.alloc _ _) as e w2 ⟨rfl,H⟩;have U:Hid (qa w w2):=κ ((qa.alloc _ _).trans H);have ah:=κ (qc H (qj w (.cells (Γj x os G I ke J d) 253)));clear H)))
  refine bodyPost_ret (v:= .tuple #[ι 0,false,ι 1]) (by simp[results,results136,go_sem]) rfl ?_;exact⟨rfl,ρ⟩
 ·have ab:=κ O;rw[Y] at aa;clear O Y
  go_enter func136,ntmps136
  go_wp2_with (first | (go_at_call 151;(go_call xX x.layer _ as e w1 ⟨rfl,ai⟩;subst w1;rw[ab.o])) | (refine yL (.load 63 (.tmp 15)) rfl ?_;refine xN rfl 63 (.tmp 15) rfl w.heap.size 3 rfl (Γh x.pk os G I ke J d) _ (ku (qj w (.cells (Γj x os G I ke J d) 253))) underlying63 rfl ξ ?_) | (go_at_call 92;(go_call aa.o _ (qa.alloc _ _) as e w2 ⟨rfl,H⟩;have U:Hid (qa w w2):=κ ((qa.alloc _ _).trans H);have ah:=κ (qc H (qj w (.cells (Γj x os G I ke J d) 253)));clear H)))
  refine bodyPost_ret (v:= .tuple #[ι 0,false,ι 1]) (by simp[results,results136,go_sem]) rfl ?_;exact⟨rfl,U.o⟩
 ·have ab:=κ O;rw[Y] at aa;rw[ac] at ae;clear O Y ac
  go_enter func136,ntmps136
  go_wp2_with (first | (go_at_call 151;(go_call xX x.layer _ as e w1 ⟨rfl,ai⟩;subst w1;rw[ab.o])) | (refine yL (.load 63 (.tmp 15)) rfl ?_;refine xN rfl 63 (.tmp 15) rfl w.heap.size 3 rfl (Γh x.pk os G I ke J d) _ (ku (qj w (.cells (Γj x os G I ke J d) 253))) underlying63 rfl ξ ?_) | (go_at_call 92;(go_call aa.o _ (qa.alloc _ _) as e w2 ⟨rfl,H⟩;have U:Hid (qa w w2):=κ ((qa.alloc _ _).trans H);have ah:=κ (qc H (qj w (.cells (Γj x os G I ke J d) 253)));clear H)) | (go_at_call 69;(go_call ae.o _ U.o as e ag ⟨rfl,ad⟩;have af:Hid (qa w ag):=κ (U.o.trans ad);clear ad)))
  refine bodyPost_ret (v:= .tuple #[ι 0,false,ι 7]) (by simp[results,results136,go_sem]) rfl ?_;exact⟨rfl,af.o⟩
 ·have ab:=κ O;rw[Y] at aa;rw[ac] at ae;have an:=κ al;clear O Y ac al
  go_enter func136,ntmps136
  go_wp2_with (first | (go_at_call 151;(go_call xX x.layer _ as e w1 ⟨rfl,ai⟩;subst w1;rw[ab.o])) | (refine yL (.load 63 (.tmp 15)) rfl ?_;refine xN rfl 63 (.tmp 15) rfl w.heap.size 3 rfl (Γh x.pk os G I ke J d) _ (ku (qj w (.cells (Γj x os G I ke J d) 253))) underlying63 rfl ξ ?_) | (go_at_call 92;(go_call aa.o _ (qa.alloc _ _) as e w2 ⟨rfl,H⟩;have U:Hid (qa w w2):=κ ((qa.alloc _ _).trans H);have ah:=κ (qc H (qj w (.cells (Γj x os G I ke J d) 253)));clear H)) | (go_at_call 69;(go_call ae.o _ U.o as e ag ⟨rfl,ad⟩;have af:Hid (qa w ag):=κ (U.o.trans ad);clear ad;have c4:ag.cell? ⟨k.L,4,none⟩=some (μ false):=(by rw[<-an.o];exact qb (qc af.o am.o.blk) 4 rfl))))
  refine bodyPost_ret (v:= .tuple #[ι 0,false,ι 5]) (by simp[results,results136,go_sem]) rfl ?_;exact⟨rfl,af.o⟩
theorem Uy (h:LnX N w k vo s) (x:ItS) (os ac Y:Option Addr) (ah ke O:Nat) (be:PkS w (δ os x.pk.ss.length ah) (δ ac x.pk.ex.length ke) (δ Y x.pk.pl.length O) x.pk) (ag:uf x.pk) (bj:uj x.pk)
  (bQ:jj x.layer=true) (bf:jJ x.pk=true) (bK:s.gone=false) (bR:s.wanted=true):
  Calls prog 136 #[γ k.L,(Γj x os ah ac ke Y O)] w λe w'=>e= .returned (.tuple #[ι (if s.A.length<s.room then 0 else (s.A.head?.map (·.id)).getD 0),(decide (¬s.A.length<s.room)),ι 0])/\
   LnX (xf N w w') w' k vo {s with A:=if s.A.length<s.room then s.A++[x] else s.A.tail++[x]}/\qg N w w':=by
 have cd:Hid (∀w',qa w w'->Calls prog 92 #[(Γh x.pk os ah ac ke Y O)] w' λe w''=>e= .returned (μ true)/\qa w' w''):=κ λw' m=>by have:=gc x.pk _ _ _ w' (be.keep m) bj;rw[bf] at this;exact this
 have bX:Hid (∀(w':World),qa w w'->Calls prog 69 #[γ k.L] w' λe w''=>e= .returned (μ false)/\qa w' w''):=κ λw' m=>by have:=gF (h.on m);rw[bK] at this;exact this
 have cf:=κ bQ;have ca:=κ bf;have cg:=κ bR;have I:=κ h;have aJ:=κ be;have ai:=κ bj;have bY:=κ ag;have bx:=κ h.dist;obtain⟨cG,bi⟩:=ν ((if s.A.length<s.room then 0 else (s.A.head?.map (·.id)).getD 0));obtain⟨cF,bh⟩:=ν (decide (¬s.A.length<s.room));obtain⟨dl,bg⟩:=ν ((if s.A.length<s.room then s.A++[x] else s.A.tail++[x]));rw[bi,bh,bg];have ce:=κ bi;have cc:=κ bh;have cb:=κ bg;clear bi bh bg h be bj ag bQ bf bK bR
 go_enter func136,ntmps136
 go_wp2_with (first | (go_at_call 151;(go_call xX x.layer _ as e w1 ⟨rfl,cx⟩;subst w1;rw[cf.o])) | (refine yL (.load 63 (.tmp 15)) rfl ?_;refine xN rfl 63 (.tmp 15) rfl w.heap.size 3 rfl (Γh x.pk os ah ac ke Y O) _ (ku (qj w (.cells (Γj x os ah ac ke Y O) 253))) underlying63 rfl ξ ?_) | (go_at_call 92;(go_call cd.o _ (qa.alloc _ _) as e w2 ⟨rfl,bm⟩;have bz:Hid (qa w w2):=κ ((qa.alloc _ _).trans bm);have cl:=κ (qc bm (qj w (.cells (Γj x os ah ac ke Y O) 253)));clear bm)) | (go_at_call 69;(go_call bX.o _ bz.o as e ay ⟨rfl,bn⟩;have aL:Hid (qa w ay):=κ (bz.o.trans bn);have aR:=κ (qc bn cl.o);clear bn;have c4:ay.cell? ⟨k.L,4,none⟩=some (μ true):=(by rw[<-cg.o];exact qb (qc aL.o I.o.blk) 4 rfl);have cM:ay.cell? ⟨w.heap.size,8,none⟩=some (δ os x.pk.ss.length ah):=qb aR.o 8 rfl)) | (go_at_call 49;(go_call Ad _ x.pk.ss ay (aJ.o.s.keep aL.o) ai.o.s as e w4 ⟨⟨v4,rfl,bp⟩,bo⟩;have aq:=κ bp;have bA:Hid (qa w w4):=κ (aL.o.trans bo);have av:=κ (qc bo aR.o);obtain⟨aa,U,rfl⟩:=zA bp;clear bp bo;have cM:w4.cell? ⟨w.heap.size,8,none⟩=some (δ os x.pk.ss.length ah):=qb av.o 8 rfl;have dq:w4.frozen? ⟨w.heap.size,8,none⟩=false:=qd av.o 8;have cK:w4.cell? ⟨w.heap.size,11,none⟩=some (δ ac x.pk.ex.length ke):=qb av.o 11 rfl)) | (go_at_call 50;((with_reducible refine(wQ (δ ac x.pk.ex.length ke) x.pk.ex (w4.setCell ⟨w.heap.size,8,none⟩ (δ aa x.pk.ss.length U)) (aJ.o.e.keep (bA.o.st (Nat.le_refl _) _)) ai.o.e).mono ?_);rintro e w5 ⟨⟨v5,rfl,bq⟩,aE⟩;have ar:=κ bq;have bB:Hid (qa w w5):=κ ((bA.o.st (Nat.le_refl _) _).trans aE);have bC:Hid (qg (λb=>b=w.heap.size) w4 w5):=κ (((qg.refl (λb=>b=w.heap.size) w4).set (p:=⟨w.heap.size,8,none⟩) rfl _).more aE);have aw:Hid (w5.heap[w.heap.size]? =some (.cells (Γj x aa U ac ke Y O) 253 (0,0))):=κ (qc aE (qB (qp av.o 8 _) rfl));obtain⟨ad,ab,rfl⟩:=zA bq;clear bq aE;have cK:w5.cell? ⟨w.heap.size,11,none⟩=some (δ ac x.pk.ex.length ke):=qb aw.o 11 rfl;have dn:w5.frozen? ⟨w.heap.size,11,none⟩=false:=qd aw.o 11;have cL:w5.cell? ⟨w.heap.size,12,none⟩=some (δ Y x.pk.pl.length O):=qb aw.o 12 rfl)) | (go_at_call 50;((with_reducible refine(wQ (δ Y x.pk.pl.length O) x.pk.pl (w5.setCell ⟨w.heap.size,11,none⟩ (δ ad x.pk.ex.length ab)) (aJ.o.l.keep (bB.o.st (Nat.le_refl _) _)) ai.o.l).mono ?_);rintro e w6 ⟨⟨v6,rfl,bs⟩,aF⟩;have au:=κ bs;have ci:Hid (qa w w6):=κ ((bB.o.st (Nat.le_refl _) _).trans aF);have aN:Hid (qg (λb=>b=w.heap.size) w5 w6):=κ (((qg.refl (λb=>b=w.heap.size) w5).set (p:=⟨w.heap.size,11,none⟩) rfl _).more aF);have aS:Hid (w6.heap[w.heap.size]? =some (.cells (Γj x aa U ad ab Y O) 253 (0,0))):=κ (qc aF (qB (qp aw.o 11 _) rfl));obtain⟨af,ae,rfl⟩:=zA bs;clear bs aF;have cL:w6.cell? ⟨w.heap.size,12,none⟩=some (δ Y x.pk.pl.length O):=qb aS.o 12 rfl;have dp:w6.frozen? ⟨w.heap.size,12,none⟩=false:=qd aS.o 12)))
 obtain⟨W7,ax⟩:=ν (w6.setCell ⟨w.heap.size,12,none⟩ (δ af x.pk.pl.length ae));have aA:Hid (qg (λb=>b=w.heap.size) w6 W7):=κ (by rw[<-ax];exact(qg.refl (λb=>b=w.heap.size) w6).set (p:=⟨w.heap.size,12,none⟩) rfl _);have aM:Hid (qa w W7):=κ (by rw[<-ax];exact ci.o.st (Nat.le_refl _) _);have cm:Hid (W7.heap[w.heap.size]? =some (.cells (Γj x aa U ad ab af ae) 253 (0,0))):=κ (by rw[<-ax];exact qB (qp aS.o 12 _) rfl);rw[ax];clear ax;have bv:=κ (qc aM.o I.o.blk);have di:w.heap.size<ay.heap.size:=qn aR.o;have dj:w.heap.size<w4.heap.size:=qn av.o;have dk:w.heap.size<w5.heap.size:=qn aw.o;have df:w4.heap.size<=w5.heap.size:=bC.o.size;have dg:w5.heap.size<=w6.heap.size:=aN.o.size;have dh:w6.heap.size<=W7.heap.size:=aA.o.size;have cj:Hid (SlI .u32 W7 (δ aa x.pk.ss.length U) x.pk.ss):=κ ((SlI.of_owns aq.o (by have:=ai.o.s;omega)).off (λb e H=>by have:=um aq.o e;omega) ((bC.o.trans aN.o).trans aA.o));have ck:Hid (SlI .u8 W7 (δ ad x.pk.ex.length ab) x.pk.ex):=κ ((SlI.of_owns ar.o (by have:=ai.o.e;omega)).off (λb e H=>by have:=um ar.o e;simp at this;omega) (aN.o.trans aA.o));have S6:Hid (SlI .u8 W7 (δ af x.pk.pl.length ae) x.pk.pl):=κ ((SlI.of_owns au.o (by have:=ai.o.l;omega)).off (λb e H=>by have:=um au.o e;simp at this;omega) aA.o);have aO:Hid (∀b,(δ aa x.pk.ss.length U).ownBlock=some b->w.heap.size<=b/\b<W7.heap.size):=κ λb e=>by
  have aD:=um aq.o e;have bH:=Vg aq.o e;omega
 have aP:Hid (∀b,(δ ad x.pk.ex.length ab).ownBlock=some b->w.heap.size<=b/\b<W7.heap.size):=κ λb e=>by
  have aD:=um ar.o e;have bH:=Vg ar.o e;simp at aD;omega
 have aQ:Hid (∀b,(δ af x.pk.pl.length ae).ownBlock=some b->w.heap.size<=b/\b<W7.heap.size):=κ λb e=>by
  have aD:=um au.o e;have bH:=Vg au.o e;simp at aD;omega
 clear aq ar au;obtain⟨cy,aG,co,bE,cn,bD,cp,aC,aB⟩:=I.o.r1;have bu:=κ aB;have bP:aG.length=s.A.length:=aB.len;have cU:k.R1<w.heap.size:=qn aC.ring;have cS:k.A1<w.heap.size:=qn aC.row;have ap:=κ (aC.more aM.o);obtain⟨y,aV,aX,ba,aU,aT,aZ,aY,bc,bb,bM,bN⟩:=Pd W7 k.R1 k.A1 s.room cy aG co bE cn bD cp ap.o (Km aB) (Γj x aa U ad ab af ae) ⟨rfl,by simp[Value.oneCell']⟩;have aK:=κ bN;have bZ:=κ bM;clear bN bM aC aB;generalize bJ:decide (¬aG.length<s.room)=dr at aK;have bW:=κ bJ;clear bJ;have bS: ¬RgB k.R1 k.A1 k.L:=by
  obtain⟨⟨cq,cr,ct,cu,cv,cw⟩,_⟩:=bx.o;rintro(e | e)<;>omega
 have cE: ¬RgB k.R1 k.A1 w.heap.size:=by rintro(e | e)<;>omega
 go_cut [7,8,9] from 45 (λcH cI cJ bt=> ∃C,cH= γ C/\cI= μ dr/\cJ= ι 0/\bt.heap[C]? =some (.cells #[ι y.id,ι y.layer,y.key,y.pk.mr,υ y.pk.ty,φ y.pk.sq,ω y.pk.st,ω y.pk.sc,δ aV aU aT,y.pk.has,φ y.pk.pr,δ aX aZ aY,δ ba bc bb] 253 (0,0))/\qg (RgB k.R1 k.A1) W7 bt/\ ∃an ak aj am,qN 13 327 253 bt k.R1 k.A1 s.room an (vE s.room aG (Γj x aa U ad ab af ae)) ak bE aj bD am)
 case first=>
  have cN: ∀z:qz (RgB k.R1 k.A1) W7,z.w'.cell? ⟨k.L,1,none⟩=some (π (some ⟨k.R1,0,none⟩)):=λz=>qb (z.h.blk bv.o bS) 1 rfl
  have ch: ∀z:qz (RgB k.R1 k.A1) W7,z.w'.rangeAt w.heap.size 0 (Γj x aa U ad ab af ae):=λz=>xy (z.h.blk cm.o cE)
  refine wC (RgB k.R1 k.A1) W7 14 (.op 0 false (.op 1 false (.op 2 false (.op 3 false (.op 4 false (.br [5,10] λk=>if k=5 then .op 6 false (.op 7 false (.op 8 false (.op 9 false (.op 10 true (.op 11 true (.op 12 false (.op 13 false (.done)))))))) else .op 5 true (.op 6 false (.op 7 false (.op 8 false (.op 9 false (.op 11 true (.op 12 false (.op 13 false (.done)))))))))))))) ξ ξ ?_
  iterate 4 (refine qH rfl rfl (qi σ) ?_;intro K d;go_big_quiet_op;go_big_quiet_on)
  refine QU rfl rfl (qi σ) 253 (.tmp 3) rfl w.heap.size 0 rfl (Γj x aa U ad ab af ae) _ (λw' cC=>by obtain⟨z,rfl⟩:=cC;exact ch z) underlying253 rfl ξ ?_;intro K d;go_simp;refine d _ ?_;clear d K;refine wP ζ ?_ ?_
  ·(refine qO rfl rfl ?_;intro K d;unfold jn;go_simp)
   go_call aK.o _ (ap.o.more (qa.drewN W7 1)) as e w9 ⟨rfl,J,a9⟩;have G:Hid (qg (RgB k.R1 k.A1) W7 w9):=κ (((qg.refl _ _).drewN 1).trans a9);have aI:=κ J;clear a9 J;refine⟨_,rfl,qi G.o,d _ _ ?_⟩;clear d K
   repeat (first | (refine jg rfl rfl (qi G.o) ?_) | (refine qH rfl rfl (qi G.o) ?_;intro K d;go_big_quiet_op;go_big_quiet_on))
   (refine qO rfl rfl ?_;intro K d;unfold jn;go_simp)
   refine⟨qi (G.o.alc _),d _ _ ?_⟩;clear d K;refine qO rfl rfl ?_;intro K d;refine jr 253 (.tmp 7) (.tmp 52) rfl w9.heap.size 253 _ #[ι y.id,ι y.layer,y.key,y.pk.mr,υ y.pk.ty,φ y.pk.sq,ω y.pk.st,ω y.pk.sc,δ aV aU aT,y.pk.has,φ y.pk.pr,δ aX aZ aY,δ ba bc bb] rfl rfl (qj w9 _) ξ rfl (all_oneCell_toArray (by simp[Value.oneCell'])) ?_;refine⟨qi ((G.o.alc _).rowNew G.o.size _), ?_⟩;go_simp;refine d _ _ ?_;clear d K
   repeat (first | (refine jg rfl rfl (qi ((G.o.alc _).rowNew G.o.size _)) ?_) | (refine qH rfl rfl (qi ((G.o.alc _).rowNew G.o.size _)) ?_;intro K d;go_big_quiet_op;go_big_quiet_on))
   refine zg ?_;go_wp2;go_meet;obtain⟨an,ak,aj,am,J⟩:=aI.o;refine⟨_,rfl,rfl,rfl,jY (qj w9 _) _,(G.o.alc _).rowNew G.o.size _,an,ak,aj,am,(J.more (qa.alloc _ _)).away (xb _ _ _) ?_ ?_⟩
   ·have:=qn J.ring;omega
   ·have:=qn J.row;omega
  ·(refine qO rfl rfl ?_;intro K d;unfold jn;go_simp)
   refine⟨qi (((qg.refl _ W7).drewN 1).alc _),d _ _ ?_⟩;clear d K
   (refine qO rfl rfl ?_;intro K d;unfold jn;go_simp)
   go_call aK.o _ (ap.o.more ((qa.drewN W7 1).al _)) as e w9 ⟨rfl,J,a9⟩;have G:Hid (qg (RgB k.R1 k.A1) W7 w9):=κ ((((qg.refl _ _).drewN 1).alc _).trans a9);have aI:=κ J;have cV:k.R1<W7.heap.size:=qn ap.o.ring;have cT:k.A1<W7.heap.size:=qn ap.o.row;have bw:Hid (w9.heap[W7.heap.size]? =some (.cells Γa 253 (0,0))):=κ (a9.blk (qC rfl) (by rintro(e | e)<;>omega));clear a9 J;refine⟨_,rfl,qi G.o,d _ _ ?_⟩;clear d K
   repeat (first | (refine jg rfl rfl (qi G.o) ?_) | (refine qH rfl rfl (qi G.o) ?_;intro K d;go_big_quiet_op;go_big_quiet_on))
   refine qO rfl rfl ?_;intro K d;refine jr 253 (.tmp 7) (.tmp 52) rfl W7.heap.size 253 _ #[ι y.id,ι y.layer,y.key,y.pk.mr,υ y.pk.ty,φ y.pk.sq,ω y.pk.st,ω y.pk.sc,δ aV aU aT,y.pk.has,φ y.pk.pr,δ aX aZ aY,δ ba bc bb] rfl rfl bw.o ξ rfl (all_oneCell_toArray (by simp[Value.oneCell'])) ?_;refine⟨qi (G.o.rowNew (Nat.le_refl _) _), ?_⟩;go_simp;refine d _ _ ?_;clear d K
   repeat (first | (refine jg rfl rfl (qi (G.o.rowNew (Nat.le_refl _) _)) ?_) | (refine qH rfl rfl (qi (G.o.rowNew (Nat.le_refl _) _)) ?_;intro K d;go_big_quiet_op;go_big_quiet_on))
   refine zg ?_;go_wp2;go_meet;obtain⟨an,ak,aj,am,J⟩:=aI.o;exact⟨_,rfl,rfl,rfl,jY bw.o _,G.o.rowNew (Nat.le_refl _) _,an,ak,aj,am,J.away (xb _ _ _) τ τ⟩
 case rest=>
 obtain⟨C,rfl,rfl,rfl,bF,aW,an,ak,aj,am,bG⟩:=hcut;have ao:=κ aW;have bV:=κ bG;have bU:Hid (wc.heap[k.L]? =some (.cells (jQ k vo s) 153 (0,0))):=κ (aW.blk bv.o bS);have dm:wc.cell? ⟨C,0,none⟩=some (ι y.id):=qb bF 0 rfl;clear aW bG bF;go_wp2;refine bodyPost_ret (v:= .tuple #[ι y.id,dr,ι 0]) (by simp[results,results136,go_sem]) rfl ?_;obtain⟨⟨cq,cr,ct,cu,cv,cw⟩,⟨cx,cO,cP,cQ,cR⟩,⟨cW,cX,cY,cZ⟩,⟨da,db,dc⟩,⟨dd,de⟩,_⟩:=bx.o;have aH:qg (RgB k.R1 k.A1) w wc:=(qg.of_more aM.o).trans ao.o;have bL: ∀b,RgB k.R1 k.A1 b->k.muts b:=λb H=>Or.inr (Or.inl H)
 have az:qg k.muts w wc:=aH.mono bL;have bT:qg (lnM k vo) w wc:=az.mono λb H=>Or.inl H
 have bk: ∀b,vo.ownBlock=some b->vo.ownBlock=some b∨w.heap.size<=b:=λb H=>Or.inl H
 have bI: ∀b,RgB k.R1 k.A1 b->lnE N k vo b:=λb H=>kZ (bL b H)
 have ag:=I.o.ok;have bl:W7.heap.size<=wc.heap.size:=ao.o.size;have bd: ∀b,w.heap.size<=b-> ¬RgB k.R1 k.A1 b:=λb H e=>by rcases e with e | e<;>omega
 have cz:jw RIt (lnE (xf N w wc) k vo) wc (Γj x aa U ad ab af ae) x:=λw'' a=>by
  refine⟨_,_,_,rfl,⟨?_, ?_, ?_⟩,bY.o,ca.o⟩
  ·exact I.o.fresh (vo':=vo) (cj.o.off (λb e=>bd b (aO.o b e).1) ao.o) (λb e=>⟨(aO.o b e).1,Nat.lt_of_lt_of_le (aO.o b e).2 bl⟩) (λb e=>e) a
  ·exact I.o.fresh (vo':=vo) (ck.o.off (λb e=>bd b (aP.o b e).1) ao.o) (λb e=>⟨(aP.o b e).1,Nat.lt_of_lt_of_le (aP.o b e).2 bl⟩) (λb e=>e) a
  ·exact I.o.fresh (vo':=vo) (S6.o.off (λb e=>bd b (aQ.o b e).1) ao.o) (λb e=>⟨(aQ.o b e).1,Nat.lt_of_lt_of_le (aQ.o b e).2 bl⟩) (λb e=>e) a
 have bO:=DY (R:=RIt) (D:=lnE (xf N w wc) k vo) (w:=wc) (room:=s.room) (bu.o.mono λc y cD=>I.o.held cD bT bk) cz;have cA:y.id=cG:=by rw[bZ.o,bP,UQ bu.o];exact ce.o
 have cB:dr=cF:=by rw[<-bW.o,bP];exact cc.o
 rw[cb.o] at bO;rw[<-cA,<-cB];exact⟨rfl,I.o.make az.size bU.o ⟨_,_,_,_,_,_,_,bV.o,bO⟩ (I.o.r2.step aH (by rintro(e | e)<;>omega) (by rintro(e | e)<;>omega) bI λb H=>Or.inl (xE I.o.own bk H)) (I.o.r3.step aH (by rintro(e | e)<;>omega) (by rintro(e | e)<;>omega) bI λb H=>Or.inl (xE I.o.own bk H)) (I.o.rows az) ⟨ag.most,ag.row,ag.lt,ag.sq,ag.src⟩,az.mono λb H=>I.o.muts b H⟩
theorem Ii (h:LnX N w k vo s) (x:ItS) (os I J:Option Addr) (H ke G:Nat) (U:PkS w (δ os x.pk.ss.length H) (δ I x.pk.ex.length ke) (δ J x.pk.pl.length G) x.pk) (ab:uf x.pk) (Y:uj x.pk):
  Calls prog 136 #[γ k.L,(Γj x os H I ke J G)] w λe w'=>e= .returned (.tuple #[ι (xp s x).2.1,μ (xp s x).2.2.1,ι (xp s x).2.2.2])/\LnX (xf N w w') w' k vo (xp s x).1/\qg N w w':=by
 by_cases h1:(jj x.layer&&jJ x.pk)=false
 ·have e:xp s x=(s,0,false,1):=by unfold xp;rw[if_pos h1]
  rw[e];refine(Qt h x os I J H ke G U Y 1 ?_).mono ?_
  ·cases d:jj x.layer with
   | false=>exact Or.inl ⟨rfl,rfl⟩
   | true=>rw[d] at h1;exact Or.inr (Or.inl ⟨rfl,by simpa using h1,rfl⟩)
  ·rintro e w' ⟨rfl,m⟩;exact⟨rfl,h.grow m,qg.of_more m⟩
 ·have d:jj x.layer=true/\jJ x.pk=true:=by simpa using h1
  cases hg:s.gone with
  | true=>
   have e:xp s x=(s,0,false,7):=by unfold xp;rw[if_neg h1,if_pos hg]
   rw[e];refine(Qt h x os I J H ke G U Y 7 (Or.inr (Or.inr (Or.inl ⟨d.1,d.2,hg,rfl⟩)))).mono ?_;rintro e w' ⟨rfl,m⟩;exact⟨rfl,h.grow m,qg.of_more m⟩
  | false=>
   cases hw:s.wanted with
   | false=>
    have e:xp s x=(s,0,false,5):=by unfold xp;rw[if_neg h1,if_neg (by rw[hg];decide),if_pos hw]
    rw[e];refine(Qt h x os I J H ke G U Y 5 (Or.inr (Or.inr (Or.inr ⟨d.1,d.2,hg,hw,rfl⟩)))).mono ?_;rintro e w' ⟨rfl,m⟩;exact⟨rfl,h.grow m,qg.of_more m⟩
   | true=>
    have e:xp s x=((yX s x).1,(yX s x).2.1,(yX s x).2.2,0):=by unfold xp;rw[if_neg h1,if_neg (by rw[hg];decide),if_neg (by rw[hw];decide)]
    rw[e];have O:=Uy h x os I J H ke G U ab Y d.1 d.2 hg hw;by_cases hc:s.A.length<s.room
    ·have aa:yX s x=({s with A:=s.A++[x]},0,false):=by unfold yX;rw[if_pos hc]
     rw[aa];simp only[hc,if_true,not_true,decide_false] at O;exact O
    ·have aa:yX s x=({s with A:=s.A.tail++[x]},(s.A.head?.map (·.id)).getD 0,true):=by unfold yX;rw[if_neg hc]
     rw[aa];simp only[hc,if_false,not_false_iff,decide_true] at O;exact O
end
theorem Qv {w:World} {base d e n m:Nat} {v:Value} {xs:List Value} (h:w.ownsRow base e n v m xs) (I:d<=base):w.ownsRow d e n v m xs:=by
 obtain⟨G,H⟩:=h;refine⟨G, ?_⟩;rcases H with h | ⟨b,cap,cur,e1,hb1,rest⟩
 ·exact Or.inl h
 ·exact Or.inr ⟨b,cap,cur,e1,Nat.le_trans I hb1,rest⟩
theorem Wl {d:Nat->Prop} {w w1 w2:World} (G:w.heap.size<=w1.heap.size) (H:w1.heap.size<=w2.heap.size):xf (xf d w w1) w1 w2=xf d w w2:=by
 funext b
 apply propext;unfold xf;constructor
 ·rintro((e | e) | e)
  ·exact Or.inl e
  ·exact Or.inr ⟨e.1,τ⟩
  ·exact Or.inr ⟨τ,e.2⟩
 ·rintro(e | e)
  ·exact Or.inl (Or.inl e)
  ·by_cases h:b<w1.heap.size
   ·exact Or.inl (Or.inr ⟨e.1,h⟩)
   ·exact Or.inr ⟨τ,e.2⟩
theorem je.widen {α:Type} {n:Nat} {R:qL α} {D D':Nat->Prop} {w:World} {base e:Nat} {v:Value} {L:List α} (h:je n R D w base e v L) (k: ∀b,D' b->D b∨w.heap.size<=b):je n R D' w base e v L:=by
 have I:=λ{b} (d:v.ownBlock=some b)=>h.lt d
 obtain⟨⟨xs,o,r⟩,G⟩:=h;refine⟨⟨xs,o,λi hi=>(r i hi).other λb d=> ?_⟩,λb d H=> ?_⟩
 ·rcases d with e | e
  ·rcases k b e with e | e
   ·exact Or.inl (Or.inl e)
   ·exact Or.inr e
  ·exact Or.inl (Or.inr e)
 ·rcases k b H with e | e
  ·exact G b d e
  ·have:=I d;omega
section
variable {D:Nat->Prop} {w:World}
theorem ZT {q:List (List Value)} {l:List ItS} (a:zb (jw RIt D w) q l):q.map idN=l.map (·.id)/\ ∀c∈q,∃i r,c= ι i::r/\r.length=12:=by
 induction l generalizing q with
 | nil=>rw[a.nil_r];exact⟨rfl,λc d=>by simp at d⟩
 | cons y l ih=>
  obtain⟨c,q',rfl,I,a'⟩:=a.uncons;obtain⟨G,H⟩:=ih a';obtain⟨N,J,vp,rfl,_⟩:=I.read;refine⟨by rw[List.map_cons,List.map_cons,G];rfl,λc d=> ?_⟩;rcases List.mem_cons.1 d with rfl | d
  ·exact⟨_,_,rfl,rfl⟩
  ·exact H c d
theorem VV {q:List (List Value)} {l:List (ItS×Bool)} (a:zb (jw RCh D w) q l):q.map idN=l.map (·.1.id)/\ ∀c∈q,∃i r,c= ι i::r/\r.length=13:=by
 induction l generalizing q with
 | nil=>rw[a.nil_r];exact⟨rfl,λc d=>by simp at d⟩
 | cons y l ih=>
  obtain⟨c,q',rfl,I,a'⟩:=a.uncons;obtain⟨G,H⟩:=ih a';obtain⟨N,J,vp,rfl,_⟩:=I.read;refine⟨by rw[List.map_cons,List.map_cons,G];rfl,λc d=> ?_⟩;rcases List.mem_cons.1 d with rfl | d
  ·exact⟨_,_,rfl,rfl⟩
  ·exact H c d
theorem Vv {q:List (List Value)} {l:List (Int×List Int)} (a:zb (jw ROu D w) q l):q.map idN=l.map (·.1)/\ ∀c∈q,∃i r,c= ι i::r/\r.length=1:=by
 induction l generalizing q with
 | nil=>rw[a.nil_r];exact⟨rfl,λc d=>by simp at d⟩
 | cons y l ih=>
  obtain⟨c,q',rfl,I,a'⟩:=a.uncons;obtain⟨G,H⟩:=ih a';obtain⟨v,rfl,_⟩:=I.read;refine⟨by rw[List.map_cons,List.map_cons,G];rfl,λc d=> ?_⟩;rcases List.mem_cons.1 d with rfl | d
  ·exact⟨_,_,rfl,rfl⟩
  ·exact H c d
end
section
variable {N:Nat->Prop} {w w':World} {k:LnB} {vo:Value} {s s':LnS}
theorem Z1 (h:LnX N w k vo s):Calls prog 126 #[γ k.L,ι 1] w λe w'=>(∃v,e= .returned v/\w'.ownsRow w.heap.size 3 1 v (s.A.map (·.id)).length ((s.A.map (·.id)).map (Value.int .i64)))/\LnX (xf N w w') w' k vo {s with A:=[]}/\qg k.muts w w':=by
 have c1:w.cell? ⟨k.L,1,none⟩=some (π (some ⟨k.R1,0,none⟩)):=qb h.blk 1 rfl;have G:=κ h;have ai:=κ h.dist;obtain⟨ax,U,au,av,aq,ar,aw,H,I⟩:=h.r1;have aj:=κ H;have ao:=κ (ZT I).2;have al:=κ (ZT I).1;have ap:Hid (∀c∈U,∀u∈c,u.oneCell'=true):=κ λc az=>(H.qall c az).2
 have aA:U.length<=8:=by have:=H.fits;have:=H.pos;omega
 clear h H I
 go_enter func126,ntmps126
 go_wp2_with (first | (go_at_call 180;(go_call IN w k.R1 k.A1 s.room ax U au av aq ar aw aj.o as e w1 ⟨v1,rfl,ah,H,I⟩;have am:=κ ah;have ak:=κ H;have aa:=κ I;clear ah H I)) | (go_at_call 179;(go_call Nl w1 v1 U w.heap.size am.o ao.o ap.o aA as e w2 ⟨⟨v2,rfl,o2⟩,ag⟩;have an:=κ o2;have ab:=κ ag;clear o2 ag)))
 go_ret;obtain⟨⟨aD,aE,aF,aG,aH,aI⟩,⟨aJ,aK,aL,aM,aN⟩,⟨aP,aQ,aR,aS⟩,⟨aT,aU,aV⟩,⟨aW,aX⟩,_⟩:=ai.o;have O:qg (RgB k.R1 k.A1) w w2:=aa.o.more ab.o;have ae: ∀b,RgB k.R1 k.A1 b->k.muts b:=λb d=>Or.inr (Or.inl d)
 have Y:qg k.muts w w2:=O.mono ae;have af: ∀b,vo.ownBlock=some b->vo.ownBlock=some b∨w.heap.size<=b:=λb d=>Or.inl d
 have ad: ∀b,RgB k.R1 k.A1 b->lnE N k vo b:=λb d=>kZ (ae b d)
 have J:=G.o.ok;obtain⟨aO,aB,aC,ay⟩:=ak.o;have ac:=Qv an.o aa.o.size;rw[al.o] at ac;exact⟨⟨_,rfl,ac⟩,G.o.make Y.size (O.blk G.o.blk (by rintro(e | e)<;>omega)) ⟨_,_,_,_,_,_,_,ay.more ab.o,trivial⟩ (G.o.r2.step O (by rintro(e | e)<;>omega) (by rintro(e | e)<;>omega) ad λb d=>Or.inl (xE G.o.own af d)) (G.o.r3.step O (by rintro(e | e)<;>omega) (by rintro(e | e)<;>omega) ad λb d=>Or.inl (xE G.o.own af d)) (G.o.rows Y) ⟨J.most,J.row,J.lt,J.sq,J.src⟩,Y⟩
theorem ZZ (h:LnX N w k vo s):Calls prog 126 #[γ k.L,ι 2] w λe w'=>(∃v,e= .returned v/\w'.ownsRow w.heap.size 3 1 v (s.B.map (·.1.id)).length ((s.B.map (·.1.id)).map (Value.int .i64)))/\LnX (xf N w w') w' k vo {s with B:=[]}/\qg k.muts w w':=by
 have c1:w.cell? ⟨k.L,2,none⟩=some (π (some ⟨k.R2,0,none⟩)):=qb h.blk 2 rfl;have G:=κ h;have ah:=κ h.dist;obtain⟨aw,U,ar,au,ap,aq,av,H,I⟩:=h.r2;have ai:=κ H;have an:=κ (VV I).2;have ak:=κ (VV I).1;have ao:Hid (∀c∈U,∀u∈c,u.oneCell'=true):=κ λc ay=>(H.qall c ay).2
 have az:U.length<=8:=by have:=H.fits;have:=H.pos;omega
 clear h H I
 go_enter func126,ntmps126
 go_wp2_with (first | (go_at_call 183;(go_call IO w k.R2 k.A2 s.room aw U ar au ap aq av ai.o as e w1 ⟨v1,rfl,ag,H,I⟩;have al:=κ ag;have aj:=κ H;have A2:=κ I;clear ag H I)) | (go_at_call 182;(go_call Nm w1 v1 U w.heap.size al.o an.o ao.o az as e w2 ⟨⟨v2,rfl,o2⟩,af⟩;have am:=κ o2;have aa:=κ af;clear o2 af)))
 go_ret;obtain⟨⟨aC,aD,aE,aF,aG,aH⟩,⟨aI,aJ,aK,aL,aM⟩,⟨aO,aP,aQ,aR⟩,⟨aS,aT,aU⟩,⟨aV,aW⟩,_⟩:=ah.o;have O:qg (RgB k.R2 k.A2) w w2:=A2.o.more aa.o;have ad: ∀b,RgB k.R2 k.A2 b->k.muts b:=λb d=>Or.inr (Or.inr (Or.inl d))
 have Y:qg k.muts w w2:=O.mono ad;have ae: ∀b,vo.ownBlock=some b->vo.ownBlock=some b∨w.heap.size<=b:=λb d=>Or.inl d
 have ac: ∀b,RgB k.R2 k.A2 b->lnE N k vo b:=λb d=>kZ (ad b d)
 have J:=G.o.ok;obtain⟨aN,aA,aB,ax⟩:=aj.o;have ab:=Qv am.o A2.o.size;rw[ak.o] at ab;exact⟨⟨_,rfl,ab⟩,G.o.make Y.size (O.blk G.o.blk (by rintro(e | e)<;>omega)) (G.o.r1.step O (by rintro(e | e)<;>omega) (by rintro(e | e)<;>omega) ac λb d=>Or.inl (xE G.o.own ae d)) ⟨_,_,_,_,_,_,_,ax.more aa.o,trivial⟩ (G.o.r3.step O (by rintro(e | e)<;>omega) (by rintro(e | e)<;>omega) ac λb d=>Or.inl (xE G.o.own ae d)) (G.o.rows Y) ⟨J.most,J.row,J.lt,J.sq,J.src⟩,Y⟩
theorem ZY (h:LnX N w k vo s):Calls prog 126 #[γ k.L,ι 3] w λe w'=>(∃v,e= .returned v/\w'.ownsRow w.heap.size 3 1 v (s.C.map (·.1)).length ((s.C.map (·.1)).map (Value.int .i64)))/\LnX (xf N w w') w' k vo {s with C:=[]}/\qg k.muts w w':=by
 have c1:w.cell? ⟨k.L,3,none⟩=some (π (some ⟨k.R3,0,none⟩)):=qb h.blk 3 rfl;have G:=κ h;have ai:=κ h.dist;obtain⟨ax,U,au,av,aq,ar,aw,H,I⟩:=h.r3;have aj:=κ H;have ao:=κ (Vv I).2;have al:=κ (Vv I).1;have ap:Hid (∀c∈U,∀u∈c,u.oneCell'=true):=κ λc az=>(H.qall c az).2
 have aA:U.length<=8:=by have:=H.fits;have:=H.pos;omega
 clear h H I
 go_enter func126,ntmps126
 go_wp2_with (first | (go_at_call 186;(go_call IM w k.R3 k.A3 s.room ax U au av aq ar aw aj.o as e w1 ⟨v1,rfl,ah,H,I⟩;have am:=κ ah;have ak:=κ H;have aa:=κ I;clear ah H I)) | (go_at_call 185;(go_call Nk w1 v1 U w.heap.size am.o ao.o ap.o aA as e w2 ⟨⟨v2,rfl,o2⟩,ag⟩;have an:=κ o2;have ab:=κ ag;clear o2 ag)))
 go_ret;obtain⟨⟨aD,aE,aF,aG,aH,aI⟩,⟨aJ,aK,aL,aM,aN⟩,⟨aP,aQ,aR,aS⟩,⟨aT,aU,aV⟩,⟨aW,aX⟩,_⟩:=ai.o;have O:qg (RgB k.R3 k.A3) w w2:=aa.o.more ab.o;have ae: ∀b,RgB k.R3 k.A3 b->k.muts b:=λb d=>Or.inr (Or.inr (Or.inr d))
 have Y:qg k.muts w w2:=O.mono ae;have af: ∀b,vo.ownBlock=some b->vo.ownBlock=some b∨w.heap.size<=b:=λb d=>Or.inl d
 have ad: ∀b,RgB k.R3 k.A3 b->lnE N k vo b:=λb d=>kZ (ae b d)
 have J:=G.o.ok;obtain⟨aO,aB,aC,ay⟩:=ak.o;have ac:=Qv an.o aa.o.size;rw[al.o] at ac;exact⟨⟨_,rfl,ac⟩,G.o.make Y.size (O.blk G.o.blk (by rintro(e | e)<;>omega)) (G.o.r1.step O (by rintro(e | e)<;>omega) (by rintro(e | e)<;>omega) ad λb d=>Or.inl (xE G.o.own af d)) (G.o.r2.step O (by rintro(e | e)<;>omega) (by rintro(e | e)<;>omega) ad λb d=>Or.inl (xE G.o.own af d)) ⟨_,_,_,_,_,_,_,ay.more ab.o,trivial⟩ (G.o.rows Y) ⟨J.most,J.row,J.lt,J.sq,J.src⟩,Y⟩
def vh (s:LnS) (n:Int):LnS:={s with A:=if n=1 then [] else s.A,B:=if n=2 then [] else s.B,C:=if n=3 then [] else s.C}
theorem Cm (h:LnX N w k vo s) (n:Int) (H:n=1∨n=2∨n=3):Calls prog 126 #[γ k.L,ι n] w λe w'=>(∃v,e= .returned v)/\LnX (xf N w w') w' k vo (vh s n)/\qg k.muts w w':=by
 rcases H with rfl | rfl | rfl
 ·refine(Z1 h).mono ?_;rintro e w' ⟨⟨v,rfl,_⟩,d,G⟩;exact⟨⟨v,rfl⟩,d,G⟩
 ·refine(ZZ h).mono ?_;rintro e w' ⟨⟨v,rfl,_⟩,d,G⟩;exact⟨⟨v,rfl⟩,d,G⟩
 ·refine(ZY h).mono ?_;rintro e w' ⟨⟨v,rfl,_⟩,d,G⟩;exact⟨⟨v,rfl⟩,d,G⟩
end
def zt (g b n:Int):Int×Int:=
 if 63<n-g then (n,1) else if 0<n-g then (n,bits .or .u64 (IntKind.u64.wrap (b* 2 ^ (n-g).toNat)) 1)
 else if-63<=n-g then (g,lay b (-(n-g)) 1 1) else (g,b)
def yi (g b m:Int):Bool:=decide (m<=g/\g-m<=63)&&b.toNat.testBit (g-m).toNat
theorem DV (i:Nat):Nat.testBit 1 i=decide (i=0):=by
 cases i with
 | zero=>rfl
 | succ i=>simp[Nat.testBit_succ]
theorem D7 (b:Int) (k:Nat) (H:U64 b) (O:0<k) (N:k<=63):
  U64 (bits .or .u64 (IntKind.u64.wrap (b* 2 ^ k)) 1)/\ ∀i:Nat,i<64->(bits .or .u64 (IntKind.u64.wrap (b* 2 ^ k)) 1).toNat.testBit i=(decide (i=0)||(decide (k<=i)&&b.toNat.testBit (i-k))):=by
 obtain⟨d,J⟩:=H;obtain⟨B,rfl⟩:=Int.eq_ofNat_of_zero_le d;have e:IntKind.u64.wrap ((B:Int)* 2 ^ k)=((B* 2 ^ k%2 ^ 64:Nat):Int):=by
  rw[IntKind.wrap_u64,Int.natCast_emod,Int.natCast_mul];simp
 have I:B* 2 ^ k%2 ^ 64<2 ^ 64:=Nat.mod_lt _ ζ;have G:bits .or .u64 (IntKind.u64.wrap ((B:Int)* 2 ^ k)) 1=((B* 2 ^ k%2 ^ 64||| 1:Nat):Int):=by
  rw[e,show (1:Int)=((1:Nat):Int) from rfl,u64_or_nat _ _ τ τ]
 have U:(B* 2 ^ k%2 ^ 64||| 1)<2 ^ 64:=Nat.or_lt_two_pow I ζ;rw[G];refine⟨⟨τ,τ⟩,λi hi=> ?_⟩;rw[Int.toNat_natCast,Int.toNat_natCast,Nat.testBit_or,Nat.testBit_mod_two_pow,Nat.testBit_mul_two_pow,DV];simp only[hi,decide_true,Bool.true_and];rw[Bool.or_comm]
theorem QD (g b n:Int):(zt g b n).1=max g n:=by
 unfold zt;split
 ·simp;omega
 ·split
  ·simp;omega
  ·split<;>(simp;omega)
theorem VG (g b n:Int) (d:U64 b):U64 (zt g b n).2:=by
 unfold zt;split
 ·exact⟨(by decide:(0:Int)<=1),(by decide:(1:Int)<=18446744073709551615)⟩
 ·split
  ·exact(D7 b _ d τ τ).1
  ·split
   ·exact EW _ _ _ _ d
   ·exact d
theorem EU (b k:Int) (G:U64 b) (d:0<=k/\k<=63) (i:Nat) (hi:i<64):(lay b k 1 1).toNat.testBit i=(decide (i=k.toNat)||b.toNat.testBit i):=by
 rw[Py b k 1 1 ⟨d.1,d.2,τ,τ⟩,Qa];simp only[hi,decide_true,Bool.true_and];by_cases h:i=k.toNat
 ·subst h;simp
 ·rw[if_neg (by simp;omega)];simp[h]
theorem ZR (g b n m:Int) (N:U64 b):yi (zt g b n).1 (zt g b n).2 m=(decide (m<=max g n/\max g n-m<=63)&&(decide (m=n)||yi g b m)):=by
 have O:=QD g b n;by_cases hin:m<=max g n/\max g n-m<=63
 ·rw[show yi (zt g b n).1 (zt g b n).2 m=(zt g b n).2.toNat.testBit (max g n-m).toNat from by unfold yi;rw[O];simp[hin]];simp only[hin,and_self,decide_true,Bool.true_and];unfold zt;by_cases h1:63<n-g
  ·rw[if_pos h1];have e:max g n=n:=by omega
   rw[e] at *;unfold yi;by_cases d:m=n
   ·subst d;simp
   ·have:(n-m).toNat≠0:=by omega
    simp only[d,decide_false,Bool.false_or];have I: ¬(m<=g/\g-m<=63):=by omega
    simp only[I,decide_false,Bool.false_and];rw[show (1:Int).toNat=1 from rfl,DV];simp;omega
  ·rw[if_neg h1];by_cases I:0<n-g
   ·rw[if_pos I];have e:max g n=n:=by omega
    rw[e] at *;simp only[];rw[(D7 b (n-g).toNat N τ τ).2 _ τ];unfold yi;by_cases d:m=n
    ·subst d;simp
    ·have G:(n-m).toNat≠0:=by omega
     by_cases h4:m<=g
     ·have J:(n-g).toNat<=(n-m).toNat:=by omega
      have H:m<=g/\g-m<=63:=by omega
      simp only[d,G,J,H,and_self,decide_true,decide_false,Bool.false_or,Bool.true_and];rw[show (n-m).toNat-(n-g).toNat=(g-m).toNat from by omega]
     ·have J: ¬(n-g).toNat<=(n-m).toNat:=by omega
      simp[d,G,h4,J]
   ·rw[if_neg I];have e:max g n=g:=by omega
    rw[e] at *;by_cases G: -63<=n-g
    ·rw[if_pos G,EU b _ N τ _ τ];unfold yi;have H:m<=g/\g-m<=63:=by omega
     have U:decide ((g-m).toNat=(-(n-g)).toNat)=decide (m=n):=by rw[Bool.eq_iff_iff];simp;omega
     rw[U];simp[H]
    ·rw[if_neg G];unfold yi;have d:m≠n:=by omega
     have H:m<=g/\g-m<=63:=by omega
     simp[d,H]
 ·have:yi (zt g b n).1 (zt g b n).2 m=false:=by
   unfold yi;rw[O];simp only[hin,decide_false,Bool.false_and]
  rw[this];simp only[hin,decide_false,Bool.false_and]
theorem Eb (g b c:Int) (H:U64 b) (I:U64 c) (h: ∀m,yi g b m=yi g c m):b=c:=by
 obtain⟨d,J⟩:=H;obtain⟨G,c1⟩:=I;obtain⟨B,rfl⟩:=Int.eq_ofNat_of_zero_le d;obtain⟨C,rfl⟩:=Int.eq_ofNat_of_zero_le G;have:B=C:=by
  apply BN τ τ;intro i hi;have:=h (g-i);unfold yi at this;have e:g-(i:Int)<=g/\g-(g-(i:Int))<=63:=by omega
  simp only[e,and_self,decide_true,Bool.true_and,Int.toNat_natCast] at this
  rwa [show (g-(g-(i:Int))).toNat=i from by omega] at this
 rw[this]
theorem WX {g b m:Int} (h:yi g b m=true):m<=g/\g-m<=63:=by
 unfold yi at h;simp only[Bool.and_eq_true,decide_eq_true_eq] at h;exact h.1
theorem IC (g b n:Int) (d:U64 b) (h:g-63<=n):((zt g b n).1==g&&(zt g b n).2==b)=yi g b n:=by
 have G:=QD g b n;by_cases hle:n<=g
 ·have e:(zt g b n).1=g:=by rw[G];omega
  rw[e];simp only[BEq.rfl,Bool.true_and];by_cases hk:yi g b n=true
  ·rw[hk,beq_iff_eq];apply Eb g _ _ (VG g b n d) d;intro m;have:=ZR g b n m d;rw[e] at this;rw[this];by_cases hm:m=n
   ·subst hm;rw[hk];have:=WX hk;simp;omega
   ·by_cases hkm:yi g b m=true
    ·have:=WX hkm;simp[hkm];omega
    ·simp only[Bool.not_eq_true] at hkm;simp[hm,hkm]
  ·simp only[Bool.not_eq_true] at hk;rw[hk];simp only[beq_eq_false_iff_ne,ne_eq];intro H;have:=ZR g b n n d;rw[e,H,hk] at this;simp at this;omega
 ·have e:((zt g b n).1==g)=false:=by rw[G];simp;omega
  rw[e,Bool.false_and];unfold yi;have: ¬(n<=g/\g-n<=63):=by omega
  simp[this]
theorem Gx:prog.eqGuardType prog.depth 233=false:=by kernel_rfl
end Go.Proofs.YtlmllmonabafjaaGreatDoor
