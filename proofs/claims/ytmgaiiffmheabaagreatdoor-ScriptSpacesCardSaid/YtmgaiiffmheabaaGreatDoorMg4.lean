/- x -/
import Derived.Test.YtmgaiiffmheabaaGreatDoorMg3
import Derived.KernelRfl
import Derived.Deep.AppendLies
import Derived.Shelf.RegionOpenPlain
import Derived.Deep.RegionLaw
import Derived.Laws.IdiomCopy
import Derived.Lib.AppendZeros
import Derived.Lib.AppendZerosOnto
import Derived.Lib.Overlaps
namespace Go.Proofs.YtmgaiiffmheabaaGreatDoor
open Option renaming some->ϊ,none->ϋ
open Bool renaming true->ό,false->ύ
open Go.Value renaming bool->μ,slice->δ,pointer->π,agg->θ
open Go.IntKind renaming i64->ι,u8->υ,u16->φ,u32->ω,i32->χ,u64->ψ
open _root_.Go.Proofs.Tryz
set_option linter.all false
set_option maxHeartbeats 8000000
open Go.RowKit
set_option maxRecDepth 100000
variable {w w':World} {v v' vo:Value} {q:List (List Value)} {Q:Exit->Act->World->Prop} {base R e:Nat} {K:Act->World->Prop} {D S N:Nat->Prop} {P:Program} {ops:Array Oper} {xs:List Value} {l:List ItS} {k:LnB} {s s':LnS} {A:List Int} {a:Act} {o:Oper} {E:Prop}
def Pv {t:TypeId} (h:w.heap[k.L]? =ϊ (.cells (jQ k vo s) t (0,0))):w.rangeAt k.L 7 [ω s.rw.src,φ s.rw.sq,ω s.rw.st,s.rw.any,ω s.rw.last,ω s.rw.shift]:=λj v d=>by
 match j,d with
 | 0,d=>exact qa h 7 d
 | 1,d=>exact qa h 8 d
 | 2,d=>exact qa h 9 d
 | 3,d=>exact qa h 10 d
 | 4,d=>exact qa h 11 d
 | 5,d=>exact qa h 12 d
def Zm {C:World->Prop} (d:TypeId) (x:Operand) (J:o.op= .load d x) (b off:Nat) (O:a.eval x= π (ϊ ⟨b,off,ϋ⟩)) (cs:List Value) (G:TypeDesc) (H:w.rangeAt b off cs)
  (N:P.underlying d=ϊ G) (I:G.isRow=ό) (hi:(P.info? d).map (·.size)=ϊ cs.length) (h:C w/\K (a.put o.dst (θ cs.toArray)) w):jn P C o a w K:=by
 unfold jn execOp;simp only[J,O,Instr.loadAt,Instr.sureAddr,Sem.run_bind,Sem.run_pure,Result.andThen_ok,run_loadVar_mid w b off d cs G H N I hi];exact h
def Zj (h:LnX N w k vo s) (G:vC s 2=ύ):Calls prog 194 #[γ k.L] w λe w'=>e= .returned (.tuple #[ι 0,ύ,ύ])/\ql w w':=by
 have d:=Yz h;rw[G] at d;have d:=κ d;clear G h
 go_enter func194,ntmps194
 go_wp2_with (go_at_call 175;(go_call d.o as e w1 ⟨rfl,H⟩;have I:=κ H;clear H))
 refine bodyPost_ret (v:= .tuple #[ι 0,ύ,ύ]) (by simp[results,results194,go_sem]) rfl ?_;exact⟨rfl,I.o⟩
def XQ (h:LnX N w k vo s) (x:ItS) (ad:Bool) (T:List (ItS×Bool)) (bY:s.B=(x,ad)::T) (X Z Q:Int) (ca:shL s.rw x.pk.st ad=X) (bm:(x.pk.st+X)%4294967296=Z) (bl:(s.rw.sq+1)%65536=Q):
  Calls prog 194 #[γ k.L] w λe w'=>e= .returned (.tuple #[ι (if s.C.length<s.room then 0 else (s.C.head?.map (·.1)).getD 0),(decide (¬s.C.length<s.room)),ό])/\
   LnX (xf N w w') w' k vo {s with B:=T,rw:=⟨s.rw.src,Q,s.rw.st,ό,Z,X⟩,C:=if s.C.length<s.room then s.C++[(x.id,pkB {x.pk with sq:=s.rw.sq,st:=Z,sc:=s.rw.src})] else s.C.tail++[(x.id,pkB {x.pk with sq:=s.rw.sq,st:=Z,sc:=s.rw.src})]}/\jt N w w':=by
 have Y:=κ h;have aF:=Yz h;have cc:vC s 2=ό:=by
  show decide (0<s.B.length)=ό;rw[bY];simp
 rw[cc] at aF;have aF:=κ aF;have cJ:=κ (λ(mr:Bool) (ty q so:Int) (w:World)=>AI s.rw.src s.rw.sq s.rw.st s.rw.last s.rw.shift s.rw.any ad mr ty q x.pk.st so w X ca Z bm Q bl);have cX:U32 Z:=by rw[<-bm];exact⟨τ,τ⟩
 have cW:U16 Q:=by rw[<-bl];exact⟨τ,τ⟩
 obtain⟨aN,dz,bQ,cO,bN,bP,cQ,ay,be⟩:=h.r2;rw[bY] at be;obtain⟨c,q,rfl,aI,bM⟩:=be.uncons;have AQ:=κ bM;obtain⟨dE,dC,vp,rfl,⟨⟨os,I,rfl,_⟩,⟨J,ke,rfl,_⟩,⟨O,H,rfl,_⟩⟩,aa,cj⟩:=aI.read;have aQ: ∀w',jt (lnE N k vo) w w'->PkS w' (δ os x.pk.ss.length I) (δ J x.pk.ex.length ke) (δ O x.pk.pl.length H) x.pk:=λw' a=>by
  obtain⟨dF,dD,vp',e,cf,_⟩:=aI w' a;simp[itC] at e;obtain⟨ax,aL,aM⟩:=e;rw[<-ax,<-aL,<-aM] at cf;exact cf
 have bn:uf {x.pk with sq:=s.rw.sq,st:=Z,sc:=s.rw.src}:=⟨aa.ty,h.ok.sq,cX,h.ok.src,aa.ss,aa.pr,aa.ex,aa.pl⟩;have bq:jJ {x.pk with sq:=s.rw.sq,st:=Z,sc:=s.rw.src}=ό:=cj;have cD:Hid (∀w',jt (lnE N k vo) w w'->Calls prog 69 #[θ #[μ x.pk.mr,υ x.pk.ty,φ s.rw.sq,ω Z,ω s.rw.src,δ os x.pk.ss.length I,x.pk.has,φ x.pk.pr,δ J x.pk.ex.length ke,δ O x.pk.pl.length H]] w' λe w''=>(∃v,e= .returned (.tuple #[v,ι 0])/\w''.ownsRow w'.heap.size 5 1 v (pkB {x.pk with sq:=s.rw.sq,st:=Z,sc:=s.rw.src}).length ((pkB {x.pk with sq:=s.rw.sq,st:=Z,sc:=s.rw.src}).map (Value.int .u8)))/\ql w' w''):=
  κ λw' a=>gi {x.pk with sq:=s.rw.sq,st:=Z,sc:=s.rw.src} _ _ _ w' ⟨(aQ w' a).s,(aQ w' a).e,(aQ w' a).l⟩ bn bq
 have aX:Hid ((pkB {x.pk with sq:=s.rw.sq,st:=Z,sc:=s.rw.src}).length<=200/\Byt (pkB {x.pk with sq:=s.rw.sq,st:=Z,sc:=s.rw.src})):=κ ⟨by
  have cT:=Ey {x.pk with sq:=s.rw.sq,st:=Z,sc:=s.rw.src};have cU:=((yq _).1 bq).2.2.2.2
  omega,Iy bn⟩
 clear aQ aa bn cj bq ca bm bl;generalize pkB {x.pk with sq:=s.rw.sq,st:=Z,sc:=s.rw.src}=body at *;obtain⟨dg,bs⟩:=ν ((if s.C.length<s.room then 0 else (s.C.head?.map (·.1)).getD 0));obtain⟨df,bp⟩:=ν (decide (¬s.C.length<s.room));obtain⟨dA,bo⟩:=ν ((if s.C.length<s.room then s.C++[(x.id,body)] else s.C.tail++[(x.id,body)]));rw[bs,bp,bo];have cI:=κ bs;have cH:=κ bp;have cG:=κ bo;clear bs bp bo;simp only[itC,M6,I0] at aI ay;have cz:=κ ay;have ds:k.R2<w.heap.size:=qn ay.ring;have dn:k.A2<w.heap.size:=qn ay.row;have ae:=κ h.dist;clear h cc ay aI bM be
 go_enter func194,ntmps194
 go_wp2_with (first | (go_at_call 175;(go_call aF.o as e w1 ⟨rfl,aA⟩;have cK:=κ aA;have bD:=κ (qq aA Y.o.blk);have dH:Hid (w.heap.size<=w1.heap.size):=κ aA.size;have cy:=κ (cz.o.more aA);clear aA;have c2:w1.cell? ⟨k.L,2,ϋ⟩=ϊ (π (ϊ ⟨k.R2,0,ϋ⟩)):=qa bD.o 2 rfl)) | (go_at_call 254;(go_call Nc w1 k.R2 k.A2 s.room aN _ q bQ cO bN bP cQ cy.o as e w2 ⟨rfl,⟨cP,bW⟩,bf⟩;have cA:=κ bW;have A2:Hid (jt (RgB k.R2 k.A2) w w2):=κ ((jt.of_more cK.o).trans bf);have aS:Hid (w2.heap[k.L]? =ϊ (.cells (jQ k vo s) 223 (0,0))):=κ (bf.blk bD.o (by obtain⟨⟨ag,ao,ah,ai,_⟩,_⟩:=ae.o;rintro(e | e)<;>omega));clear bW bf)))
 obtain⟨ac,az⟩:=ν ((w2.alloc (.cells (Γk x os I J ke O H ad) 204)).alloc (.cells (Γh x.pk os I J ke O H) 133));have aZ:Hid (ql w2 ac):=κ (by rw[<-az];exact X6.al _);have bc:Hid (ac.heap[w2.heap.size]? =ϊ (.cells (Γk x os I J ke O H ad) 204 (0,0))):=κ (by rw[<-az];exact qs (qj w2 _) _);have bb:Hid (ac.heap[w2.heap.size+1]? =ϊ (.cells (Γh x.pk os I J ke O H) 133 (0,0))):=κ (by rw[<-az];exact qC η);have aT:=κ (qq aZ.o aS.o);rw[az];clear az;have cu: ¬w2.heap.size=k.L:=by have:=qn aS.o;omega
 have bu: ¬w2.heap.size+1=k.L:=by have:=qn aS.o;omega
 have bH: ∀y:qz (λb=>b=k.L) ac,y.w'.rangeAt (w2.heap.size+1) 0 [μ x.pk.mr,υ x.pk.ty,φ x.pk.sq,ω x.pk.st,ω x.pk.sc]:=λy=>by
  have:=xy (cs:=(Γh x.pk os I J ke O H)) (y.h.blk bb.o bu);intro j v aq;refine this j v ?_;have cY:=(ϣ.1 aq).1;rw[<-aq];exact Ψ (l₁:=[μ x.pk.mr,υ x.pk.ty,φ x.pk.sq,ω x.pk.st,ω x.pk.sc]) (l₂:=[δ os x.pk.ss.length I,x.pk.has,φ x.pk.pr,δ J x.pk.ex.length ke,δ O x.pk.pl.length H]) cY
 have cN: ∀y:qz (λb=>b=k.L) ac,y.w'.cell? ⟨w2.heap.size,13,ϋ⟩=ϊ (μ ad):=λy=>qa (y.h.blk bc.o cu) 13 rfl
 refine zp (λb=>b=k.L) ac 17 [(0,ύ),(1,ύ),(2,ύ),(3,ύ),(5,ύ),(6,ύ),(7,ύ),(8,ύ),(4,ό),(9,ό),(10,ύ),(11,ύ),(12,ύ),(13,ύ),(14,ύ),(15,ό),(16,ύ),(17,ό)] ξ ξ ?_
 refine Qs5 ?_
 refine jh rfl rfl (qi σ) 128 (.tmp 33) rfl (w2.heap.size+1) 0 rfl [μ x.pk.mr,υ x.pk.ty,φ x.pk.sq,ω x.pk.st,ω x.pk.sc] _ (λw' dd=>by obtain⟨y,rfl⟩:=dd;exact bH y) underlying128 rfl ξ ?_;intro K d;go_simp;refine d _ ?_;clear d K
 refine Qs2 ?_
 refine jR rfl rfl ?_;intro K d;refine Zm 215 (.tmp 31) rfl k.L 7 rfl [ω s.rw.src,φ s.rw.sq,ω s.rw.st,s.rw.any,ω s.rw.last,ω s.rw.shift] _ (Pv (qb aT.o 1)) underlying215 rfl ξ ?_;refine⟨qi σ, ?_⟩;go_simp;refine d _ _ ?_;clear d K
 (refine Ql ?_;intro K d)
 go_call cJ.o _ _ _ _ _ as e w5 ⟨rfl,cq⟩;have af:Hid (ql ac w5):=κ ((ql.drewN _ 1).trans cq);clear cq;have aU:=κ (qq af.o aT.o);have bI:=κ (qq af.o bb.o);have bK:=κ (qq af.o bc.o);refine⟨_,rfl,qi (jt.of_more af.o),d _ _ ?_⟩;clear d K bH cN
 iterate 5 (refine qE rfl rfl (qi (jt.of_more af.o)) ?_;intro K d;go_big_quiet_op;go_big_quiet_on)
 refine jR rfl rfl ?_;intro K d;refine zF 215 (.tmp 41) (.tmp 38) rfl k.L 7 223 _ [ω s.rw.src,φ Q,ω s.rw.st,ό,ω Z,ω X] rfl rfl aU.o (by show 7+6<=16;decide) ξ X8 ?_;have aj:Hid (jt (λb=>b=k.L) ac (w5.setRow k.L (xQ (jQ k vo s).toList 7 [ω s.rw.src,φ Q,ω s.rw.st,ό,ω Z,ω X]).toArray)):=κ ((jt.of_more (S:=λb=>b=k.L) af.o).row (g:=k.L) rfl _);have aV:Hid ((w5.setRow k.L (xQ (jQ k vo s).toList 7 [ω s.rw.src,φ Q,ω s.rw.st,ό,ω Z,ω X]).toArray).heap[k.L]? =ϊ (.cells (jQ k vo {s with rw:=⟨s.rw.src,Q,s.rw.st,ό,Z,X⟩}) 223 (0,0))):=κ (qB (jY aU.o _) rfl);have aH:Hid ((w5.setRow k.L (xQ (jQ k vo s).toList 7 [ω s.rw.src,φ Q,ω s.rw.st,ό,ω Z,ω X]).toArray).heap[w2.heap.size+1]? =ϊ (.cells (Γh x.pk os I J ke O H) 133 (0,0))):=κ (qS bI.o _ bu);have bd:Hid ((w5.setRow k.L (xQ (jQ k vo s).toList 7 [ω s.rw.src,φ Q,ω s.rw.st,ό,ω Z,ω X]).toArray).heap[w2.heap.size]? =ϊ (.cells (Γk x os I J ke O H ad) 204 (0,0))):=κ (qS bK.o _ cu);obtain⟨w6,ck⟩:=ν (w5.setRow k.L (xQ (jQ k vo s).toList 7 [ω s.rw.src,φ Q,ω s.rw.st,ό,ω Z,ω X]).toArray);rw[ck] at aj aV aH bd ⊢;clear ck aU bI bK af;refine⟨qi aj.o, ?_⟩;go_simp;refine d _ _ ?_;clear d K
 iterate 1 (refine qE rfl rfl (qi aj.o) ?_;intro K d;go_big_quiet_op;go_big_quiet_on)
 refine zY rfl rfl ζ ?_;intro K d;refine zF 128 (.tmp 42) (.tmp 39) rfl (w2.heap.size+1) 0 133 _ [μ x.pk.mr,υ x.pk.ty,φ s.rw.sq,ω Z,ω s.rw.src] rfl rfl aH.o (by show 0+5<=10;decide) ξ X8 ?_;have au:Hid (jt (λb=>b=k.L∨RgB k.R2 k.A2 b) w (w6.setRow (w2.heap.size+1) (xQ ((Γh x.pk os I J ke O H):Array Value).toList 0 [μ x.pk.mr,υ x.pk.ty,φ s.rw.sq,ω Z,ω s.rw.src]).toArray)):=κ ((((A2.o.mono λb G=>ϕ G).more aZ.o).trans (aj.o.mono λb G=>ϑ G)).rowNew (by have:=A2.o.size;omega) _);have bE:Hid ((w6.setRow (w2.heap.size+1) (xQ ((Γh x.pk os I J ke O H):Array Value).toList 0 [μ x.pk.mr,υ x.pk.ty,φ s.rw.sq,ω Z,ω s.rw.src]).toArray).heap[k.L]? =ϊ (.cells (jQ k vo {s with rw:=⟨s.rw.src,Q,s.rw.st,ό,Z,X⟩}) 223 (0,0))):=κ (qS aV.o _ (λe=>bu e.symm));have bJ:Hid ((w6.setRow (w2.heap.size+1) (xQ ((Γh x.pk os I J ke O H):Array Value).toList 0 [μ x.pk.mr,υ x.pk.ty,φ s.rw.sq,ω Z,ω s.rw.src]).toArray).heap[w2.heap.size+1]? =ϊ (.cells #[μ x.pk.mr,υ x.pk.ty,φ s.rw.sq,ω Z,ω s.rw.src,δ os x.pk.ss.length I,x.pk.has,φ x.pk.pr,δ J x.pk.ex.length ke,δ O x.pk.pl.length H] 133 (0,0))):=κ (qB (jY aH.o _) rfl);have bL:Hid ((w6.setRow (w2.heap.size+1) (xQ ((Γh x.pk os I J ke O H):Array Value).toList 0 [μ x.pk.mr,υ x.pk.ty,φ s.rw.sq,ω Z,ω s.rw.src]).toArray).heap[w2.heap.size]? =ϊ (.cells (Γk x os I J ke O H ad) 204 (0,0))):=κ (qS bd.o _ τ);have bG:Hid (qN 14 277 204 (w6.setRow (w2.heap.size+1) (xQ ((Γh x.pk os I J ke O H):Array Value).toList 0 [μ x.pk.mr,υ x.pk.ty,φ s.rw.sq,ω Z,ω s.rw.src]).toArray) k.R2 k.A2 s.room ((aN+1)%s.room) q bQ cP bN bP _):=κ (((cA.o.more aZ.o).away aj.o (by obtain⟨⟨ag,ao,ah,ai,_⟩,_⟩:=ae.o;exact C4 ah) (by obtain⟨⟨ag,ao,ah,ai,_⟩,_⟩:=ae.o;exact C4 ai)).away (EC _ _ _) (λe=>by have:=A2.o.size;omega) (λe=>by have:=A2.o.size;omega));obtain⟨W7,bZ⟩:=ν (w6.setRow (w2.heap.size+1) (xQ ((Γh x.pk os I J ke O H):Array Value).toList 0 [μ x.pk.mr,υ x.pk.ty,φ s.rw.sq,ω Z,ω s.rw.src]).toArray);rw[bZ] at au bE bJ bL bG ⊢;clear bZ aj aV aH bd bb bc aT;refine⟨trivial, ?_⟩;go_simp;refine d _ _ ?_;clear d K;refine qA ?_;have cv:Hid (jt (lnE N k vo) w W7):=κ (au.o.mono λb G=>kZ (by rcases G with e | e;exact ϑ e;exact ϕ (ϕ (ϑ e))))
 go_wp2_with (first | (refine yL (.load 133 (.tmp 7)) rfl ?_;refine vO rfl 133 (.tmp 7) rfl (w2.heap.size+1) 133 _ _ bJ.o rfl underlying133 rfl ξ ?_) | (go_at_call 69;(go_call cD.o _ cv.o as e w8 ⟨⟨dB,rfl,aR⟩,cr⟩;have ba:=κ aR;have aG:=κ cr;have cL:=κ (SlI.of_owns aR (by have:=aX.o.1;omega));obtain⟨aJ,aK,rfl⟩:=VI aR;clear aR cr)))
 obtain⟨aO,aB,bR,bi,bO,bh,bS,aP,a3⟩:=Y.o.r3;have bz:Hid (jt (λb=>b=k.L∨RgB k.R2 k.A2 b) w w8):=κ (au.o.more aG.o);have bF:=κ (qq aG.o bE.o);have cM:=κ (qq aG.o bL.o);have cB:=κ (bG.o.more aG.o);have bA:=κ a3;have ci:aB.length=s.C.length:=a3.len;have dt:k.R3<w.heap.size:=qn aP.ring;have dp:k.A3<w.heap.size:=qn aP.row;have dI:w.heap.size<=w2.heap.size:=A2.o.size;have aw:Hid (qN 2 279 209 w8 k.R3 k.A3 s.room aO aB bR bi bO bh bS):=κ (aP.away bz.o (by obtain⟨⟨ag,ao,ah,ai,bj,bk⟩,⟨ax,aL,aM,bU,bV⟩,⟨aN,cR,aO,cS⟩,⟨cl,cm,cn⟩,⟨co,cp⟩,_⟩:=ae.o;rintro(e | e | e)<;>omega) (by obtain⟨⟨ag,ao,ah,ai,bj,bk⟩,⟨ax,aL,aM,bU,bV⟩,⟨aN,cR,aO,cS⟩,⟨cl,cm,cn⟩,⟨co,cp⟩,_⟩:=ae.o;rintro(e | e | e)<;>omega));obtain⟨ar,bv,bw,op,ce,cg⟩:=Pc w8 k.R3 k.A3 s.room aO aB bR bi bO bh bS aw.o (UJ a3) [ι x.id,δ aJ body.length aK] ⟨rfl,by simp[Value.oneCell']⟩;have aY:=κ cg;have cF:=κ ce;clear cg ce aP a3;generalize cb:decide (¬aB.length<s.room)=dr at aY;have cE:=κ cb;clear cb;have ct: ¬RgB k.R3 k.A3 k.L:=by
  obtain⟨⟨ag,ao,ah,ai,bj,bk⟩,_⟩:=ae.o;rintro(e | e)<;>omega
 have de: ¬RgB k.R3 k.A3 w2.heap.size:=by rintro(e | e)<;>omega
 go_cut [10,11,12] from 48 (λdh di dj bx=> ∃C,dh= γ C/\di= μ dr/\dj= ι 0/\bx.heap[C]? =ϊ (.cells #[ι ar,δ bv bw op] 209 (0,0))/\jt (RgB k.R3 k.A3) w8 bx/\ ∃ap am ak an,qN 2 279 209 bx k.R3 k.A3 s.room ap (vE s.room aB [ι x.id,δ aJ body.length aK]) am bi ak bh an)
 case first=>
  have dk: ∀y:qz (RgB k.R3 k.A3) w8,y.w'.cell? ⟨k.L,3,ϋ⟩=ϊ (π (ϊ ⟨k.R3,0,ϋ⟩)):=λy=>qa (y.h.blk bF.o ct) 3 rfl
  have dl: ∀y:qz (RgB k.R3 k.A3) w8,y.w'.cell? ⟨w2.heap.size,0,ϋ⟩=ϊ (ι x.id):=λy=>qa (y.h.blk cM.o de) 0 rfl
  refine wC (RgB k.R3 k.A3) w8 18 (.op 0 ύ (.op 1 ύ (.op 2 ύ (.op 3 ύ (.op 4 ύ (.op 5 ύ (.op 6 ύ (.op 7 ύ (.op 8 ύ (.br [9,14] λk=>if k=9 then .op 10 ύ (.op 11 ύ (.op 12 ύ (.op 13 ύ (.op 14 ό (.op 15 ό (.op 16 ύ (.op 17 ύ (.done)))))))) else .op 9 ό (.op 10 ύ (.op 11 ύ (.op 12 ύ (.op 13 ύ (.op 15 ό (.op 16 ύ (.op 17 ύ (.done)))))))))))))))))) ξ ξ ?_
  repeat (first | (refine jg rfl rfl (qi σ) ?_) | (refine qH rfl rfl (qi σ) ?_;intro K d;go_big_quiet_op;go_big_quiet_on))
  refine wP ζ ?_ ?_
  ·(refine qO rfl rfl ?_;intro K d;unfold jn;go_simp)
   go_call aY.o _ (aw.o.more (ql.drewN w8 1)) as e w9 ⟨rfl,ab,a9⟩;have U:Hid (jt (RgB k.R3 k.A3) w8 w9):=κ (((jt.refl _ _).drewN 1).trans a9);have aW:=κ ab;clear a9 ab;refine⟨_,rfl,qi U.o,d _ _ ?_⟩;clear d K
   repeat (first | (refine jg rfl rfl (qi U.o) ?_) | (refine qH rfl rfl (qi U.o) ?_;intro K d;go_big_quiet_op;go_big_quiet_on))
   (refine qO rfl rfl ?_;intro K d;unfold jn;go_simp)
   refine⟨qi (U.o.alc _),d _ _ ?_⟩;clear d K
   (refine qO rfl rfl ?_;intro K d;unfold jn;go_simp)
   refine⟨qi (U.o.alc _),d _ _ ?_⟩;clear d K
   repeat (first | (refine jg rfl rfl (qi (U.o.alc _)) ?_) | (refine qH rfl rfl (qi (U.o.alc _)) ?_;intro K d;go_big_quiet_op;go_big_quiet_on))
   refine zg ?_;go_wp2;go_meet;obtain⟨ap,am,ak,an,ab⟩:=aW.o;exact⟨_,rfl,rfl,rfl,qj w9 _,U.o.alc _,ap,am,ak,an,ab.more X6⟩
  ·(refine qO rfl rfl ?_;intro K d;unfold jn;go_simp)
   refine⟨qi (((jt.refl _ w8).drewN 1).alc _),d _ _ ?_⟩;clear d K
   (refine qO rfl rfl ?_;intro K d;unfold jn;go_simp)
   go_call aY.o _ (aw.o.more ((ql.drewN w8 1).al _)) as e w9 ⟨rfl,ab,a9⟩;have U:Hid (jt (RgB k.R3 k.A3) w8 w9):=κ ((((jt.refl _ _).drewN 1).alc _).trans a9);have aW:=κ ab;have du:k.R3<w8.heap.size:=qn aw.o.ring;have dq:k.A3<w8.heap.size:=qn aw.o.row;have av:Hid (w9.heap[w8.heap.size]? =ϊ (.cells Γs 209 (0,0))):=κ (a9.blk (qC rfl) X9);clear a9 ab;have dm:w9.cell? ⟨w8.heap.size,0,ϋ⟩=ϊ (ι 0):=qa av.o 0 rfl;have ag:w9.cell? ⟨w8.heap.size,1,ϋ⟩=ϊ (δ ϋ 0 0):=qa av.o 1 rfl;have e0:w9.frozen? ⟨w8.heap.size,0,ϋ⟩=ύ:=yw av.o 0;have ax:w9.frozen? ⟨w8.heap.size,1,ϋ⟩=ύ:=yw av.o 1;refine⟨_,rfl,qi U.o,d _ _ ?_⟩;clear d K
   repeat (first | (refine jg rfl rfl (qi U.o) ?_) | (refine qH rfl rfl (qi U.o) ?_;intro K d;go_big_quiet_op;go_big_quiet_on))
   (refine qO rfl rfl ?_;intro K d;unfold jn;go_simp)
   have aC:jt (RgB k.R3 k.A3) w8 ((w9.setCell ⟨w8.heap.size,0,ϋ⟩ (ι ar)).setCell ⟨w8.heap.size,1,ϋ⟩ (δ bv bw op)):=(U.o.setNew (ϔ _) _).setNew (ϔ _) _;have cw:jt (λb=>b=w8.heap.size) w9 ((w9.setCell ⟨w8.heap.size,0,ϋ⟩ (ι ar)).setCell ⟨w8.heap.size,1,ϋ⟩ (δ bv bw op)):=((jt.refl (λb=>b=w8.heap.size) w9).set (p:=⟨w8.heap.size,0,ϋ⟩) rfl _).set (p:=⟨w8.heap.size,1,ϋ⟩) rfl _;refine⟨qi aC,d _ _ ?_⟩;clear d K
   repeat (first | (refine jg rfl rfl (qi aC) ?_) | (refine qH rfl rfl (qi aC) ?_;intro K d;go_big_quiet_op;go_big_quiet_on))
   refine zg ?_;go_wp2;go_meet;obtain⟨ap,am,ak,an,ab⟩:=aW.o;exact⟨_,rfl,rfl,rfl,qB (qp (qp av.o 0 _) 1 _) rfl,aC,ap,am,ak,an,ab.away cw τ τ⟩
 case rest=>
 obtain⟨C,rfl,rfl,rfl,bT,bg,ap,am,ak,an,bX⟩:=hcut;have aE:=κ bg;have cC:=κ bX;have cx:Hid (wc.heap[k.L]? =ϊ (.cells (jQ k vo {s with rw:=⟨s.rw.src,Q,s.rw.st,ό,Z,X⟩}) 223 (0,0))):=κ (bg.blk bF.o ct);have dG:wc.cell? ⟨C,0,ϋ⟩=ϊ (ι ar):=qa bT 0 rfl;clear bg bX bT;go_wp2;refine bodyPost_ret (v:= .tuple #[ι ar,dr,ό]) (by simp[results,results194,go_sem]) rfl ?_;obtain⟨⟨ag,ao,ah,ai,bj,bk⟩,⟨ax,aL,aM,bU,bV⟩,⟨dv,dw,dx,dy⟩,⟨cl,cm,cn⟩,⟨co,cp⟩,_⟩:=ae.o;have bC:jt (λb=>b=k.L∨RgB k.R2 k.A2 b∨RgB k.R3 k.A3 b) w wc:=(bz.o.mono λb G=>by rcases G with e | e;exact ϑ e;exact ϕ (ϑ e)).trans (aE.o.mono λb G=>ϕ (ϕ G));have cd: ∀b,(b=k.L∨RgB k.R2 k.A2 b∨RgB k.R3 k.A3 b)->k.muts b:=λb G=>by rcases G with e | e | e;exact ϑ e;exact ϕ (ϕ (ϑ e));exact ϕ (ϕ (ϕ e))
 have aD:jt k.muts w wc:=bC.mono cd;have bB:jt (lnM k vo) w wc:=aD.mono λb G=>ϑ G
 have aq: ∀b,vo.ownBlock=ϊ b->vo.ownBlock=ϊ b∨w.heap.size<=b:=λb G=>ϑ G
 have cV: ∀b,(b=k.L∨RgB k.R2 k.A2 b∨RgB k.R3 k.A3 b)->lnE N k vo b:=λb G=>kZ (cd b G)
 have aa:=Y.o.ok;have cZ:jw ROu (lnE (xf N w wc) k vo) wc [ι x.id,δ aJ body.length aK] (x.id,body):=λw'' a=>by
  refine⟨_,rfl, ?_,aX.o.2,aX.o.1⟩
  have dc:SlI .u8 wc (δ aJ body.length aK) body:=cL.o.off (λb e G=>by
   have cT:=um ba.o e;have cU:=au.o.size
   rcases G with G | G<;>omega) aE.o
  refine Y.o.fresh (vo':=vo) dc (λb e=>⟨ϙ au.o.size (um ba.o e),ϗ (Vg ba.o e) aE.o.size⟩) (λb e=>e) a
 have ch:=DY (R:=ROu) (D:=lnE (xf N w wc) k vo) (w:=wc) (room:=s.room) (bA.o.mono λc y bt=>Y.o.held bt bB aq) cZ;have da:ar=dg:=by rw[cF.o,ci,Pg bA.o];exact cI.o
 have db:dr=df:=by rw[<-cE.o,ci];exact cH.o
 rw[cG.o] at ch;rw[<-da,<-db];refine⟨rfl,Y.o.make aD.size cx.o (Y.o.r1.step bC (by rintro(e | (e | e) | (e | e))<;>omega) (by rintro(e | (e | e) | (e | e))<;>omega) cV λb G=>ϑ (xE Y.o.own aq G)) ⟨_,_,_,_,_,_,_,cB.o.away aE.o X9 X9,AQ.o.mono λc y bt=>Y.o.held bt bB aq⟩ ⟨_,_,_,_,_,_,_,cC.o,ch⟩ (Y.o.rows aD) ⟨aa.most,aa.row,aa.lt,cW,aa.src⟩,aD.mono λb G=>Y.o.muts b G⟩
def Uu (h:LnX N w k vo s):Calls prog 194 #[γ k.L] w λe w'=>e= .returned (.tuple #[ι (qY s).2.1,μ (qY s).2.2.1,μ (qY s).2.2.2])/\LnX (xf N w w') w' k vo (qY s).1/\jt N w w':=by
 cases hB:s.B with
 | nil=>
  have e:qY s=(s,0,ύ,ύ):=by unfold qY;rw[hB]
  rw[e];refine(Zj h (by show decide (0<s.B.length)=ύ;rw[hB];rfl)).mono ?_;rintro e w' ⟨rfl,m⟩;exact⟨rfl,h.grow m,jt.of_more m⟩
 | cons y T=>
  obtain⟨x,d⟩:=y;have e:qY s=((NJ {s with B:=T,rw:=ul s.rw x.pk d} (x.id,pkB (kY s.rw x.pk d))).1,(NJ {s with B:=T,rw:=ul s.rw x.pk d} (x.id,pkB (kY s.rw x.pk d))).2.1,(NJ {s with B:=T,rw:=ul s.rw x.pk d} (x.id,pkB (kY s.rw x.pk d))).2.2,ό):=by unfold qY;rw[hB]
  rw[e];have G:=XQ h x d T hB (shL s.rw x.pk.st d) ((x.pk.st+shL s.rw x.pk.st d)%4294967296) ((s.rw.sq+1)%65536) rfl rfl rfl;by_cases hc:s.C.length<s.room
  ·have H:NJ {s with B:=T,rw:=ul s.rw x.pk d} (x.id,pkB (kY s.rw x.pk d))=({s with B:=T,rw:=ul s.rw x.pk d,C:=s.C++[(x.id,pkB (kY s.rw x.pk d))]},0,ύ):=by unfold NJ;rw[ϓ hc]
   rw[H];simp only[hc,C1,not_true,decide_false] at G;exact G
  ·have H:NJ {s with B:=T,rw:=ul s.rw x.pk d} (x.id,pkB (kY s.rw x.pk d))=({s with B:=T,rw:=ul s.rw x.pk d,C:=s.C.tail++[(x.id,pkB (kY s.rw x.pk d))]},(s.C.head?.map (·.1)).getD 0,ό):=by unfold NJ;rw[Ϗ hc]
   rw[H];simp only[hc,D4,not_false_iff,decide_true] at G;exact G
theorem xN {rest:List Oper} {op:Oper} (U:Region.wanted op (yielded ops a.tmps)=ό) (d:TypeId) (x:Operand) (N:op.op= .load d x)
  (b o:Nat) (Y:a.eval x= π (ϊ ⟨b,o,ϋ⟩)) (cs:List Value) (G:TypeDesc) (I:w.rangeAt b o cs)
  (O:P.underlying d=ϊ G) (J:G.isRow=ό) (hi:(P.info? d).map (·.size)=ϊ cs.length)
  (h:wpList P ops Q rest (a.put op.dst (θ cs.toArray)) w):wpList P ops Q (op::rest) a w:=
 wpList_step λK H=>by
  rw[ϓ U];exact wp_load_mid d x N b o Y cs G I O J hi (H _ _ h)
def ku {b t:Nat} {a0 d G:Value} {cs:List Value} (h:w.heap[b]? =ϊ (.cells (a0::d::G::cs).toArray t (0,0))):w.rangeAt b 3 cs:=λj v H=>by
 rw[cell_of_row w b (3+j) _ t (0,0) h,Δ,show 3+j=j+1+1+1 by omega]
 simpa using H
def Km (a:zb (jw RIt D w) q l): ∀c∈q,∃(y:ItS) (G H J:Option Addr) (an d bn I cn N:Nat),c=[ι y.id,ι y.layer,y.key,y.pk.mr,υ y.pk.ty,φ y.pk.sq,ω y.pk.st,ω y.pk.sc,δ G an d,y.pk.has,φ y.pk.pr,δ H bn I,δ J cn N]:=λc O=>by
 obtain⟨y,_,U⟩:=a.mem c O;obtain⟨aa,Y,vp,rfl,⟨⟨G,d,rfl,_⟩,⟨H,I,rfl,_⟩,⟨J,N,rfl,_⟩⟩,_⟩:=U.read;exact⟨y,G,H,J,_,d,_,I,_,N,rfl⟩
def UQ (a:zb (jw RIt D w) q l):(q.head?.map idN).getD 0=(l.head?.map (·.id)).getD 0:=by
 cases l with
 | nil=>rw[a.nil_r];rfl
 | cons o l=>
  obtain⟨c,q',rfl,d,_⟩:=a.uncons;obtain⟨H,G,vp,rfl,_⟩:=d.read;rfl
def Pd (am:World) (R A room f:Nat) (q:List (List Value)) (ad ab ac O:Int) (css:List (List Value)) (ai:qN 13 274 199 am R A room f q ad ab ac O css)
  (al: ∀c∈q,∃(y:ItS) (H I U:Option Addr) (G d N J aa Y:Nat),c=[ι y.id,ι y.layer,y.key,y.pk.mr,υ y.pk.ty,φ y.pk.sq,ω y.pk.st,ω y.pk.sc,δ H G d,y.pk.has,φ y.pk.pr,δ I N J,δ U aa Y]) (x:List Value) (ak:x.length=13/\ ∀u∈x,u.oneCell'=ό):
  ∃(y:ItS) (H I U:Option Addr) (G d N J aa Y:Nat),(y.id=if q.length<room then 0 else (q.head?.map idN).getD 0)/\
  ∀w,qN 13 274 199 w R A room f q ad ab ac O css->Calls prog 250 #[γ R,θ x.toArray] w λe w'=>e= .returned (.tuple #[θ #[ι y.id,ι y.layer,y.key,y.pk.mr,υ y.pk.ty,φ y.pk.sq,ω y.pk.st,ω y.pk.sc,δ H G d,y.pk.has,φ y.pk.pr,δ I N J,δ U aa Y],(decide (¬q.length<room)),ι 0])/\
   (∃f' ae ah css',qN 13 274 199 w' R A room f' (vE room q x) ae ab ah O css')/\jt (RgB R A) w w':=by
 by_cases hq:q.length<room
 ·refine⟨⟨0,0,ύ,pk0⟩,ϋ,ϋ,ϋ,0,0,0,0,0,0,by rw[ϓ hq],λw h=> ?_⟩;have af:decide (¬q.length<room)=ύ:=by simp[hq]
  have ag:vE room q x=q++[x]:=by unfold vE;rw[ϓ hq]
  rw[af,ag];refine(UF w R A room f q ad ab ac O css h hq x ak).mono ?_;rintro e w' ⟨rfl,⟨ae,g⟩,a⟩;exact⟨rfl,⟨_,_,_,_,g⟩,a⟩
 ·have an:=ai.fits;have ao:=ai.pos;cases q with
  | nil=>simp at hq;omega
  | cons c T=>
   obtain⟨y,H,I,U,G,d,N,J,aa,Y,aj⟩:=al c η;refine⟨y,H,I,U,G,d,N,J,aa,Y,by rw[Ϗ hq,aj];rfl,λw h=> ?_⟩;have af:decide (¬(c::T).length<room)=ό:=by simpa using hq
   have ag:vE room (c::T) x=T++[x]:=by unfold vE;rw[Ϗ hq];rfl
   rw[af,ag];refine(UG w R A room f c T ad ab ac O css h τ x ak).mono ?_;rintro e w' ⟨rfl,⟨ae,ah,g⟩,a⟩;exact⟨by rw[aj],⟨_,_,_,_,g⟩,a⟩
def Qt (h:LnX N w k vo s) (x:ItS) (os I J:Option Addr) (G ke d:Nat) (aj:PkS w (δ os x.pk.ss.length G) (δ I x.pk.ex.length ke) (δ J x.pk.pl.length d) x.pk) (ak:uj x.pk) (n:Int)
  (ao:(jj x.layer=ύ/\n=1)∨(jj x.layer=ό/\jJ x.pk=ύ/\n=1)∨(jj x.layer=ό/\jJ x.pk=ό/\s.gone=ό/\n=7)∨(jj x.layer=ό/\jJ x.pk=ό/\s.gone=ύ/\s.wanted=ύ/\n=5)):
  Calls prog 192 #[γ k.L,(Γj x os G I ke J d)] w λe w'=>e= .returned (.tuple #[ι 0,ύ,ι n])/\ql w w':=by
 have aa:Hid (∀w',ql w w'->Calls prog 110 #[(Γh x.pk os G I ke J d)] w' λe w''=>e= .returned (μ (jJ x.pk))/\ql w' w''):=κ λw' m=>gc x.pk _ _ _ w' (aj.keep m) ak
 have ae:=κ λ(w':World) (m:ql w w')=>gF (h.on m)
 have am:=κ h;clear h aj ak;rcases ao with ⟨O,rfl⟩ | ⟨O,Y,rfl⟩ | ⟨O,Y,ac,rfl⟩ | ⟨O,Y,ac,al,rfl⟩
 ·have ab:=κ O;clear O
  go_enter func192,ntmps192
  go_wp2_with (first | (go_at_call 103;(go_call xX x.layer _ as e w1 ⟨rfl,ai⟩;subst w1;rw[ab.o])) | (refine yL (.load 133 (.tmp 15)) rfl ?_;refine xN rfl 133 (.tmp 15) rfl w.heap.size 3 rfl (Γh x.pk os G I ke J d) _ (ku (qj w (.cells (Γj x os G I ke J d) 199))) underlying133 rfl ξ ?_) | (go_at_call 110;(go_call aa.o _ X6 as e w2 ⟨rfl,H⟩;have U:Hid (ql w w2):=κ (X6.trans H);have ah:=κ (qq H (qj w (.cells (Γj x os G I ke J d) 199)));clear H)))
  refine bodyPost_ret (v:= .tuple #[ι 0,ύ,ι 1]) (by simp[results,results192,go_sem]) rfl ?_;exact⟨rfl,ρ⟩
 ·have ab:=κ O;rw[Y] at aa;clear O Y
  go_enter func192,ntmps192
  go_wp2_with (first | (go_at_call 103;(go_call xX x.layer _ as e w1 ⟨rfl,ai⟩;subst w1;rw[ab.o])) | (refine yL (.load 133 (.tmp 15)) rfl ?_;refine xN rfl 133 (.tmp 15) rfl w.heap.size 3 rfl (Γh x.pk os G I ke J d) _ (ku (qj w (.cells (Γj x os G I ke J d) 199))) underlying133 rfl ξ ?_) | (go_at_call 110;(go_call aa.o _ X6 as e w2 ⟨rfl,H⟩;have U:Hid (ql w w2):=κ (X6.trans H);have ah:=κ (qq H (qj w (.cells (Γj x os G I ke J d) 199)));clear H)))
  refine bodyPost_ret (v:= .tuple #[ι 0,ύ,ι 1]) (by simp[results,results192,go_sem]) rfl ?_;exact⟨rfl,U.o⟩
 ·have ab:=κ O;rw[Y] at aa;rw[ac] at ae;clear O Y ac
  go_enter func192,ntmps192
  go_wp2_with (first | (go_at_call 103;(go_call xX x.layer _ as e w1 ⟨rfl,ai⟩;subst w1;rw[ab.o])) | (refine yL (.load 133 (.tmp 15)) rfl ?_;refine xN rfl 133 (.tmp 15) rfl w.heap.size 3 rfl (Γh x.pk os G I ke J d) _ (ku (qj w (.cells (Γj x os G I ke J d) 199))) underlying133 rfl ξ ?_) | (go_at_call 110;(go_call aa.o _ X6 as e w2 ⟨rfl,H⟩;have U:Hid (ql w w2):=κ (X6.trans H);have ah:=κ (qq H (qj w (.cells (Γj x os G I ke J d) 199)));clear H)) | (go_at_call 61;(go_call ae.o _ U.o as e ag ⟨rfl,ad⟩;have af:Hid (ql w ag):=κ (U.o.trans ad);clear ad)))
  refine bodyPost_ret (v:= .tuple #[ι 0,ύ,ι 7]) (by simp[results,results192,go_sem]) rfl ?_;exact⟨rfl,af.o⟩
 ·have ab:=κ O;rw[Y] at aa;rw[ac] at ae;have an:=κ al;clear O Y ac al
  go_enter func192,ntmps192
  go_wp2_with (first | (go_at_call 103;(go_call xX x.layer _ as e w1 ⟨rfl,ai⟩;subst w1;rw[ab.o])) | (refine yL (.load 133 (.tmp 15)) rfl ?_;refine xN rfl 133 (.tmp 15) rfl w.heap.size 3 rfl (Γh x.pk os G I ke J d) _ (ku (qj w (.cells (Γj x os G I ke J d) 199))) underlying133 rfl ξ ?_) | (go_at_call 110;(go_call aa.o _ X6 as e w2 ⟨rfl,H⟩;have U:Hid (ql w w2):=κ (X6.trans H);have ah:=κ (qq H (qj w (.cells (Γj x os G I ke J d) 199)));clear H)) | (go_at_call 61;(go_call ae.o _ U.o as e ag ⟨rfl,ad⟩;have af:Hid (ql w ag):=κ (U.o.trans ad);clear ad;have c4:ag.cell? ⟨k.L,4,ϋ⟩=ϊ (μ ύ):=(by rw[<-an.o];exact qa (qq af.o am.o.blk) 4 rfl))))
  refine bodyPost_ret (v:= .tuple #[ι 0,ύ,ι 5]) (by simp[results,results192,go_sem]) rfl ?_;exact⟨rfl,af.o⟩
def Uy (h:LnX N w k vo s) (x:ItS) (os ac Y:Option Addr) (ah ke O:Nat) (be:PkS w (δ os x.pk.ss.length ah) (δ ac x.pk.ex.length ke) (δ Y x.pk.pl.length O) x.pk) (ag:uf x.pk) (bj:uj x.pk)
  (bQ:jj x.layer=ό) (bf:jJ x.pk=ό) (bK:s.gone=ύ) (bR:s.wanted=ό):
  Calls prog 192 #[γ k.L,(Γj x os ah ac ke Y O)] w λe w'=>e= .returned (.tuple #[ι (if s.A.length<s.room then 0 else (s.A.head?.map (·.id)).getD 0),(decide (¬s.A.length<s.room)),ι 0])/\
   LnX (xf N w w') w' k vo {s with A:=if s.A.length<s.room then s.A++[x] else s.A.tail++[x]}/\jt N w w':=by
 have cd:Hid (∀w',ql w w'->Calls prog 110 #[(Γh x.pk os ah ac ke Y O)] w' λe w''=>e= .returned (μ ό)/\ql w' w''):=κ λw' m=>by have:=gc x.pk _ _ _ w' (be.keep m) bj;rw[bf] at this;exact this
 have bX:Hid (∀(w':World),ql w w'->Calls prog 61 #[γ k.L] w' λe w''=>e= .returned (μ ύ)/\ql w' w''):=κ λw' m=>by have:=gF (h.on m);rw[bK] at this;exact this
 have cf:=κ bQ;have ca:=κ bf;have cg:=κ bR;have I:=κ h;have aJ:=κ be;have ai:=κ bj;have bY:=κ ag;have bx:=κ h.dist;obtain⟨cG,bi⟩:=ν ((if s.A.length<s.room then 0 else (s.A.head?.map (·.id)).getD 0));obtain⟨cF,bh⟩:=ν (decide (¬s.A.length<s.room));obtain⟨dl,bg⟩:=ν ((if s.A.length<s.room then s.A++[x] else s.A.tail++[x]));rw[bi,bh,bg];have ce:=κ bi;have cc:=κ bh;have cb:=κ bg;clear bi bh bg h be bj ag bQ bf bK bR
 go_enter func192,ntmps192
 go_wp2_with (first | (go_at_call 103;(go_call xX x.layer _ as e w1 ⟨rfl,cx⟩;subst w1;rw[cf.o])) | (refine yL (.load 133 (.tmp 15)) rfl ?_;refine xN rfl 133 (.tmp 15) rfl w.heap.size 3 rfl (Γh x.pk os ah ac ke Y O) _ (ku (qj w (.cells (Γj x os ah ac ke Y O) 199))) underlying133 rfl ξ ?_) | (go_at_call 110;(go_call cd.o _ X6 as e w2 ⟨rfl,bm⟩;have bz:Hid (ql w w2):=κ (X6.trans bm);have cl:=κ (qq bm (qj w (.cells (Γj x os ah ac ke Y O) 199)));clear bm)) | (go_at_call 61;(go_call bX.o _ bz.o as e ay ⟨rfl,bn⟩;have aL:Hid (ql w ay):=κ (bz.o.trans bn);have aR:=κ (qq bn cl.o);clear bn;have c4:ay.cell? ⟨k.L,4,ϋ⟩=ϊ (μ ό):=(by rw[<-cg.o];exact qa (qq aL.o I.o.blk) 4 rfl);have cM:ay.cell? ⟨w.heap.size,8,ϋ⟩=ϊ (δ os x.pk.ss.length ah):=qa aR.o 8 rfl)) | (go_at_call 249;(go_call Ad _ x.pk.ss ay (aJ.o.s.keep aL.o) ai.o.s as e w4 ⟨⟨v4,rfl,bp⟩,bo⟩;have aq:=κ bp;have bA:Hid (ql w w4):=κ (aL.o.trans bo);have av:=κ (qq bo aR.o);obtain⟨aa,U,rfl⟩:=zA bp;clear bp bo;have cM:w4.cell? ⟨w.heap.size,8,ϋ⟩=ϊ (δ os x.pk.ss.length ah):=qa av.o 8 rfl;have ds:w4.frozen? ⟨w.heap.size,8,ϋ⟩=ύ:=yw av.o 8;have cK:w4.cell? ⟨w.heap.size,11,ϋ⟩=ϊ (δ ac x.pk.ex.length ke):=qa av.o 11 rfl)) | (go_at_call 68;((with_reducible refine(wQ (δ ac x.pk.ex.length ke) x.pk.ex (w4.setCell ⟨w.heap.size,8,ϋ⟩ (δ aa x.pk.ss.length U)) (aJ.o.e.keep (bA.o.st (ϔ _) _)) ai.o.e).mono ?_);rintro e w5 ⟨⟨v5,rfl,bq⟩,aE⟩;have ar:=κ bq;have bB:Hid (ql w w5):=κ ((bA.o.st (ϔ _) _).trans aE);have bC:Hid (jt (λb=>b=w.heap.size) w4 w5):=κ (((jt.refl (λb=>b=w.heap.size) w4).set (p:=⟨w.heap.size,8,ϋ⟩) rfl _).more aE);have aw:Hid (w5.heap[w.heap.size]? =ϊ (.cells (Γj x aa U ac ke Y O) 199 (0,0))):=κ (qq aE (qB (qp av.o 8 _) rfl));obtain⟨ad,ab,rfl⟩:=zA bq;clear bq aE;have cK:w5.cell? ⟨w.heap.size,11,ϋ⟩=ϊ (δ ac x.pk.ex.length ke):=qa aw.o 11 rfl;have dp:w5.frozen? ⟨w.heap.size,11,ϋ⟩=ύ:=yw aw.o 11;have cL:w5.cell? ⟨w.heap.size,12,ϋ⟩=ϊ (δ Y x.pk.pl.length O):=qa aw.o 12 rfl)) | (go_at_call 68;((with_reducible refine(wQ (δ Y x.pk.pl.length O) x.pk.pl (w5.setCell ⟨w.heap.size,11,ϋ⟩ (δ ad x.pk.ex.length ab)) (aJ.o.l.keep (bB.o.st (ϔ _) _)) ai.o.l).mono ?_);rintro e w6 ⟨⟨dm,rfl,bs⟩,aF⟩;have au:=κ bs;have ci:Hid (ql w w6):=κ ((bB.o.st (ϔ _) _).trans aF);have aN:Hid (jt (λb=>b=w.heap.size) w5 w6):=κ (((jt.refl (λb=>b=w.heap.size) w5).set (p:=⟨w.heap.size,11,ϋ⟩) rfl _).more aF);have aS:Hid (w6.heap[w.heap.size]? =ϊ (.cells (Γj x aa U ad ab Y O) 199 (0,0))):=κ (qq aF (qB (qp aw.o 11 _) rfl));obtain⟨af,ae,rfl⟩:=zA bs;clear bs aF;have cL:w6.cell? ⟨w.heap.size,12,ϋ⟩=ϊ (δ Y x.pk.pl.length O):=qa aS.o 12 rfl;have dq:w6.frozen? ⟨w.heap.size,12,ϋ⟩=ύ:=yw aS.o 12)))
 obtain⟨W7,ax⟩:=ν (w6.setCell ⟨w.heap.size,12,ϋ⟩ (δ af x.pk.pl.length ae));have aA:Hid (jt (λb=>b=w.heap.size) w6 W7):=κ (by rw[<-ax];exact(jt.refl (λb=>b=w.heap.size) w6).set (p:=⟨w.heap.size,12,ϋ⟩) rfl _);have aM:Hid (ql w W7):=κ (by rw[<-ax];exact ci.o.st (ϔ _) _);have cm:Hid (W7.heap[w.heap.size]? =ϊ (.cells (Γj x aa U ad ab af ae) 199 (0,0))):=κ (by rw[<-ax];exact qB (qp aS.o 12 _) rfl);rw[ax];clear ax;have bv:=κ (qq aM.o I.o.blk);have di:w.heap.size<ay.heap.size:=qn aR.o;have dj:w.heap.size<w4.heap.size:=qn av.o;have dk:w.heap.size<w5.heap.size:=qn aw.o;have df:w4.heap.size<=w5.heap.size:=bC.o.size;have dg:w5.heap.size<=w6.heap.size:=aN.o.size;have dh:w6.heap.size<=W7.heap.size:=aA.o.size;have cj:Hid (SlI .u32 W7 (δ aa x.pk.ss.length U) x.pk.ss):=κ ((SlI.of_owns aq.o (by have:=ai.o.s;omega)).off (λb e H=>by have:=um aq.o e;omega) ((bC.o.trans aN.o).trans aA.o));have ck:Hid (SlI .u8 W7 (δ ad x.pk.ex.length ab) x.pk.ex):=κ ((SlI.of_owns ar.o (by have:=ai.o.e;omega)).off (λb e H=>by have:=um ar.o e;simp at this;omega) (aN.o.trans aA.o));have S6:Hid (SlI .u8 W7 (δ af x.pk.pl.length ae) x.pk.pl):=κ ((SlI.of_owns au.o (by have:=ai.o.l;omega)).off (λb e H=>by have:=um au.o e;simp at this;omega) aA.o);have aO:Hid (∀b,(δ aa x.pk.ss.length U).ownBlock=ϊ b->w.heap.size<=b/\b<W7.heap.size):=κ λb e=>by
  have aD:=um aq.o e;have bH:=Vg aq.o e;omega
 have aP:Hid (∀b,(δ ad x.pk.ex.length ab).ownBlock=ϊ b->w.heap.size<=b/\b<W7.heap.size):=κ λb e=>by
  have aD:=um ar.o e;have bH:=Vg ar.o e;simp at aD;omega
 have aQ:Hid (∀b,(δ af x.pk.pl.length ae).ownBlock=ϊ b->w.heap.size<=b/\b<W7.heap.size):=κ λb e=>by
  have aD:=um au.o e;have bH:=Vg au.o e;simp at aD;omega
 clear aq ar au;obtain⟨cy,aG,co,bE,cn,bD,cp,aC,aB⟩:=I.o.r1;have bu:=κ aB;have bP:aG.length=s.A.length:=aB.len;have cU:k.R1<w.heap.size:=qn aC.ring;have cS:k.A1<w.heap.size:=qn aC.row;have ap:=κ (aC.more aM.o);obtain⟨y,aV,aX,ba,aU,aT,aZ,aY,bc,bb,bM,bN⟩:=Pd W7 k.R1 k.A1 s.room cy aG co bE cn bD cp ap.o (Km aB) (Γj x aa U ad ab af ae) ⟨rfl,by simp[Value.oneCell']⟩;have aK:=κ bN;have bZ:=κ bM;clear bN bM aC aB;generalize bJ:decide (¬aG.length<s.room)=dr at aK;have bW:=κ bJ;clear bJ;have bS: ¬RgB k.R1 k.A1 k.L:=by
  obtain⟨⟨cq,cr,ct,cu,cv,cw⟩,_⟩:=bx.o;rintro(e | e)<;>omega
 have cE: ¬RgB k.R1 k.A1 w.heap.size:=by rintro(e | e)<;>omega
 go_cut [7,8,9] from 45 (λcH cI cJ bt=> ∃C,cH= γ C/\cI= μ dr/\cJ= ι 0/\bt.heap[C]? =ϊ (.cells #[ι y.id,ι y.layer,y.key,y.pk.mr,υ y.pk.ty,φ y.pk.sq,ω y.pk.st,ω y.pk.sc,δ aV aU aT,y.pk.has,φ y.pk.pr,δ aX aZ aY,δ ba bc bb] 199 (0,0))/\jt (RgB k.R1 k.A1) W7 bt/\ ∃an ak aj am,qN 13 274 199 bt k.R1 k.A1 s.room an (vE s.room aG (Γj x aa U ad ab af ae)) ak bE aj bD am)
 case first=>
  have cN: ∀z:qz (RgB k.R1 k.A1) W7,z.w'.cell? ⟨k.L,1,ϋ⟩=ϊ (π (ϊ ⟨k.R1,0,ϋ⟩)):=λz=>qa (z.h.blk bv.o bS) 1 rfl
  have ch: ∀z:qz (RgB k.R1 k.A1) W7,z.w'.rangeAt w.heap.size 0 (Γj x aa U ad ab af ae):=λz=>xy (z.h.blk cm.o cE)
  refine wC (RgB k.R1 k.A1) W7 14 (.op 0 ύ (.op 1 ύ (.op 2 ύ (.op 3 ύ (.op 4 ύ (.br [5,10] λk=>if k=5 then .op 6 ύ (.op 7 ύ (.op 8 ύ (.op 9 ύ (.op 10 ό (.op 11 ό (.op 12 ύ (.op 13 ύ (.done)))))))) else .op 5 ό (.op 6 ύ (.op 7 ύ (.op 8 ύ (.op 9 ύ (.op 11 ό (.op 12 ύ (.op 13 ύ (.done)))))))))))))) ξ ξ ?_
  iterate 4 (refine qH rfl rfl (qi σ) ?_;intro K d;go_big_quiet_op;go_big_quiet_on)
  refine QU rfl rfl (qi σ) 199 (.tmp 3) rfl w.heap.size 0 rfl (Γj x aa U ad ab af ae) _ (λw' cC=>by obtain⟨z,rfl⟩:=cC;exact ch z) underlying199 rfl ξ ?_;intro K d;go_simp;refine d _ ?_;clear d K;refine wP ζ ?_ ?_
  ·(refine qO rfl rfl ?_;intro K d;unfold jn;go_simp)
   go_call aK.o _ (ap.o.more (ql.drewN W7 1)) as e w9 ⟨rfl,J,a9⟩;have G:Hid (jt (RgB k.R1 k.A1) W7 w9):=κ (((jt.refl _ _).drewN 1).trans a9);have aI:=κ J;clear a9 J;refine⟨_,rfl,qi G.o,d _ _ ?_⟩;clear d K
   repeat (first | (refine jg rfl rfl (qi G.o) ?_) | (refine qH rfl rfl (qi G.o) ?_;intro K d;go_big_quiet_op;go_big_quiet_on))
   (refine qO rfl rfl ?_;intro K d;unfold jn;go_simp)
   refine⟨qi (G.o.alc _),d _ _ ?_⟩;clear d K;refine qO rfl rfl ?_;intro K d;refine jr 199 (.tmp 7) (.tmp 52) rfl w9.heap.size 199 _ #[ι y.id,ι y.layer,y.key,y.pk.mr,υ y.pk.ty,φ y.pk.sq,ω y.pk.st,ω y.pk.sc,δ aV aU aT,y.pk.has,φ y.pk.pr,δ aX aZ aY,δ ba bc bb] rfl rfl (qj w9 _) ξ rfl (all_oneCell_toArray X8) ?_;refine⟨qi ((G.o.alc _).rowNew G.o.size _), ?_⟩;go_simp;refine d _ _ ?_;clear d K
   repeat (first | (refine jg rfl rfl (qi ((G.o.alc _).rowNew G.o.size _)) ?_) | (refine qH rfl rfl (qi ((G.o.alc _).rowNew G.o.size _)) ?_;intro K d;go_big_quiet_op;go_big_quiet_on))
   refine zg ?_;go_wp2;go_meet;obtain⟨an,ak,aj,am,J⟩:=aI.o;refine⟨_,rfl,rfl,rfl,jY (qj w9 _) _,(G.o.alc _).rowNew G.o.size _,an,ak,aj,am,(J.more X6).away (EC _ _ _) ?_ ?_⟩
   ·have:=qn J.ring;omega
   ·have:=qn J.row;omega
  ·(refine qO rfl rfl ?_;intro K d;unfold jn;go_simp)
   refine⟨qi (((jt.refl _ W7).drewN 1).alc _),d _ _ ?_⟩;clear d K
   (refine qO rfl rfl ?_;intro K d;unfold jn;go_simp)
   go_call aK.o _ (ap.o.more ((ql.drewN W7 1).al _)) as e w9 ⟨rfl,J,a9⟩;have G:Hid (jt (RgB k.R1 k.A1) W7 w9):=κ ((((jt.refl _ _).drewN 1).alc _).trans a9);have aI:=κ J;have cV:k.R1<W7.heap.size:=qn ap.o.ring;have cT:k.A1<W7.heap.size:=qn ap.o.row;have bw:Hid (w9.heap[W7.heap.size]? =ϊ (.cells Γa 199 (0,0))):=κ (a9.blk (qC rfl) X9);clear a9 J;refine⟨_,rfl,qi G.o,d _ _ ?_⟩;clear d K
   repeat (first | (refine jg rfl rfl (qi G.o) ?_) | (refine qH rfl rfl (qi G.o) ?_;intro K d;go_big_quiet_op;go_big_quiet_on))
   refine qO rfl rfl ?_;intro K d;refine jr 199 (.tmp 7) (.tmp 52) rfl W7.heap.size 199 _ #[ι y.id,ι y.layer,y.key,y.pk.mr,υ y.pk.ty,φ y.pk.sq,ω y.pk.st,ω y.pk.sc,δ aV aU aT,y.pk.has,φ y.pk.pr,δ aX aZ aY,δ ba bc bb] rfl rfl bw.o ξ rfl (all_oneCell_toArray X8) ?_;refine⟨qi (G.o.rowNew (ϔ _) _), ?_⟩;go_simp;refine d _ _ ?_;clear d K
   repeat (first | (refine jg rfl rfl (qi (G.o.rowNew (ϔ _) _)) ?_) | (refine qH rfl rfl (qi (G.o.rowNew (ϔ _) _)) ?_;intro K d;go_big_quiet_op;go_big_quiet_on))
   refine zg ?_;go_wp2;go_meet;obtain⟨an,ak,aj,am,J⟩:=aI.o;exact⟨_,rfl,rfl,rfl,jY bw.o _,G.o.rowNew (ϔ _) _,an,ak,aj,am,J.away (EC _ _ _) τ τ⟩
 case rest=>
 obtain⟨C,rfl,rfl,rfl,bF,aW,an,ak,aj,am,bG⟩:=hcut;have ao:=κ aW;have bV:=κ bG;have bU:Hid (wc.heap[k.L]? =ϊ (.cells (jQ k vo s) 223 (0,0))):=κ (aW.blk bv.o bS);have dn:wc.cell? ⟨C,0,ϋ⟩=ϊ (ι y.id):=qa bF 0 rfl;clear aW bG bF;go_wp2;refine bodyPost_ret (v:= .tuple #[ι y.id,dr,ι 0]) (by simp[results,results192,go_sem]) rfl ?_;obtain⟨⟨cq,cr,ct,cu,cv,cw⟩,⟨cx,cO,cP,cQ,cR⟩,⟨cW,cX,cY,cZ⟩,⟨da,db,dc⟩,⟨dd,de⟩,_⟩:=bx.o;have aH:jt (RgB k.R1 k.A1) w wc:=(jt.of_more aM.o).trans ao.o;have bL: ∀b,RgB k.R1 k.A1 b->k.muts b:=λb H=>ϕ (ϑ H)
 have az:jt k.muts w wc:=aH.mono bL;have bT:jt (lnM k vo) w wc:=az.mono λb H=>ϑ H
 have bk: ∀b,vo.ownBlock=ϊ b->vo.ownBlock=ϊ b∨w.heap.size<=b:=λb H=>ϑ H
 have bI: ∀b,RgB k.R1 k.A1 b->lnE N k vo b:=λb H=>kZ (bL b H)
 have ag:=I.o.ok;have bl:W7.heap.size<=wc.heap.size:=ao.o.size;have bd: ∀b,w.heap.size<=b-> ¬RgB k.R1 k.A1 b:=λb H e=>by rcases e with e | e<;>omega
 have cz:jw RIt (lnE (xf N w wc) k vo) wc (Γj x aa U ad ab af ae) x:=λw'' a=>by
  refine⟨_,_,_,rfl,⟨?_, ?_, ?_⟩,bY.o,ca.o⟩
  ·exact I.o.fresh (vo':=vo) (cj.o.off (λb e=>bd b (aO.o b e).1) ao.o) (λb e=>⟨(aO.o b e).1,ϗ (aO.o b e).2 bl⟩) (λb e=>e) a
  ·exact I.o.fresh (vo':=vo) (ck.o.off (λb e=>bd b (aP.o b e).1) ao.o) (λb e=>⟨(aP.o b e).1,ϗ (aP.o b e).2 bl⟩) (λb e=>e) a
  ·exact I.o.fresh (vo':=vo) (S6.o.off (λb e=>bd b (aQ.o b e).1) ao.o) (λb e=>⟨(aQ.o b e).1,ϗ (aQ.o b e).2 bl⟩) (λb e=>e) a
 have bO:=DY (R:=RIt) (D:=lnE (xf N w wc) k vo) (w:=wc) (room:=s.room) (bu.o.mono λc y cD=>I.o.held cD bT bk) cz;have cA:y.id=cG:=by rw[bZ.o,bP,UQ bu.o];exact ce.o
 have cB:dr=cF:=by rw[<-bW.o,bP];exact cc.o
 rw[cb.o] at bO;rw[<-cA,<-cB];exact⟨rfl,I.o.make az.size bU.o ⟨_,_,_,_,_,_,_,bV.o,bO⟩ (I.o.r2.step aH X9 X9 bI λb H=>ϑ (xE I.o.own bk H)) (I.o.r3.step aH X9 X9 bI λb H=>ϑ (xE I.o.own bk H)) (I.o.rows az) ⟨ag.most,ag.row,ag.lt,ag.sq,ag.src⟩,az.mono λb H=>I.o.muts b H⟩
def Ii (h:LnX N w k vo s) (x:ItS) (os I J:Option Addr) (H ke G:Nat) (U:PkS w (δ os x.pk.ss.length H) (δ I x.pk.ex.length ke) (δ J x.pk.pl.length G) x.pk) (ab:uf x.pk) (Y:uj x.pk):
  Calls prog 192 #[γ k.L,(Γj x os H I ke J G)] w λe w'=>e= .returned (.tuple #[ι (xp s x).2.1,μ (xp s x).2.2.1,ι (xp s x).2.2.2])/\LnX (xf N w w') w' k vo (xp s x).1/\jt N w w':=by
 by_cases h1:(jj x.layer&&jJ x.pk)=ύ
 ·have e:xp s x=(s,0,ύ,1):=by unfold xp;rw[ϓ h1]
  rw[e];refine(Qt h x os I J H ke G U Y 1 ?_).mono ?_
  ·cases d:jj x.layer with
   | false=>exact ϑ ⟨rfl,rfl⟩
   | true=>rw[d] at h1;exact ϕ (ϑ ⟨rfl,by simpa using h1,rfl⟩)
  ·rintro e w' ⟨rfl,m⟩;exact⟨rfl,h.grow m,jt.of_more m⟩
 ·have d:jj x.layer=ό/\jJ x.pk=ό:=by simpa using h1
  cases hg:s.gone with
  | true=>
   have e:xp s x=(s,0,ύ,7):=by unfold xp;rw[Ϗ h1,ϓ hg]
   rw[e];refine(Qt h x os I J H ke G U Y 7 (ϕ (ϕ (ϑ ⟨d.1,d.2,hg,rfl⟩)))).mono ?_;rintro e w' ⟨rfl,m⟩;exact⟨rfl,h.grow m,jt.of_more m⟩
  | false=>
   cases hw:s.wanted with
   | false=>
    have e:xp s x=(s,0,ύ,5):=by unfold xp;rw[Ϗ h1,Ϗ (by rw[hg];decide),ϓ hw]
    rw[e];refine(Qt h x os I J H ke G U Y 5 (ϕ (ϕ (ϕ ⟨d.1,d.2,hg,hw,rfl⟩)))).mono ?_;rintro e w' ⟨rfl,m⟩;exact⟨rfl,h.grow m,jt.of_more m⟩
   | true=>
    have e:xp s x=((yX s x).1,(yX s x).2.1,(yX s x).2.2,0):=by unfold xp;rw[Ϗ h1,Ϗ (by rw[hg];decide),Ϗ (by rw[hw];decide)]
    rw[e];have O:=Uy h x os I J H ke G U ab Y d.1 d.2 hg hw;by_cases hc:s.A.length<s.room
    ·have aa:yX s x=({s with A:=s.A++[x]},0,ύ):=by unfold yX;rw[ϓ hc]
     rw[aa];simp only[hc,C1,not_true,decide_false] at O;exact O
    ·have aa:yX s x=({s with A:=s.A.tail++[x]},(s.A.head?.map (·.id)).getD 0,ό):=by unfold yX;rw[Ϗ hc]
     rw[aa];simp only[hc,D4,not_false_iff,decide_true] at O;exact O
def Qv {d n m:Nat} (h:w.ownsRow base e n v m xs) (I:d<=base):w.ownsRow d e n v m xs:=by
 obtain⟨G,H⟩:=h;refine⟨G, ?_⟩;rcases H with h | ⟨b,cap,cur,e1,hb1,rest⟩
 ·exact ϑ h
 ·exact ϕ ⟨b,cap,cur,e1,ϙ I hb1,rest⟩
def Wl {d:Nat->Prop} {w1 w2:World} (G:w.heap.size<=w1.heap.size) (H:w1.heap.size<=w2.heap.size):xf (xf d w w1) w1 w2=xf d w w2:=by
 funext b
 apply propext;unfold xf;constructor
 ·rintro((e | e) | e)
  ·exact ϑ e
  ·exact ϕ ⟨e.1,τ⟩
  ·exact ϕ ⟨τ,e.2⟩
 ·rintro(e | e)
  ·exact ϑ (ϑ e)
  ·by_cases h:b<w1.heap.size
   ·exact ϑ (ϕ ⟨e.1,h⟩)
   ·exact ϕ ⟨τ,e.2⟩
def je.widen {α:Type} {n:Nat} {R:qL α} {D':Nat->Prop} {L:List α} (h:je n R D w base e v L) (k: ∀b,D' b->D b∨w.heap.size<=b):je n R D' w base e v L:=by
 have I:=λ{b} (d:v.ownBlock=ϊ b)=>h.lt d
 obtain⟨⟨xs,o,r⟩,G⟩:=h;refine⟨⟨xs,o,λi hi=>(r i hi).other λb d=> ?_⟩,λb d H=> ?_⟩
 ·rcases d with e | e
  ·rcases k b e with e | e
   ·exact ϑ (ϑ e)
   ·exact ϕ e
  ·exact ϑ (ϕ e)
 ·rcases k b H with e | e
  ·exact G b d e
  ·have:=I d;omega
def ZT (a:zb (jw RIt D w) q l):q.map idN=l.map (·.id)/\ ∀c∈q,∃i r,c= ι i::r/\r.length=12:=by
 induction l generalizing q with
 | nil=>rw[a.nil_r];exact⟨rfl,λc d=>by simp at d⟩
 | cons y l ih=>
  obtain⟨c,q',rfl,I,a'⟩:=a.uncons;obtain⟨G,H⟩:=ih a';obtain⟨N,J,vp,rfl,_⟩:=I.read;refine⟨by rw[Ϛ,Ϛ,G];rfl,λc d=> ?_⟩;rcases Ϟ.1 d with rfl | d
  ·exact⟨_,_,rfl,rfl⟩
  ·exact H c d
def VV {l:List (ItS×Bool)} (a:zb (jw RCh D w) q l):q.map idN=l.map (·.1.id)/\ ∀c∈q,∃i r,c= ι i::r/\r.length=13:=by
 induction l generalizing q with
 | nil=>rw[a.nil_r];exact⟨rfl,λc d=>by simp at d⟩
 | cons y l ih=>
  obtain⟨c,q',rfl,I,a'⟩:=a.uncons;obtain⟨G,H⟩:=ih a';obtain⟨N,J,vp,rfl,_⟩:=I.read;refine⟨by rw[Ϛ,Ϛ,G];rfl,λc d=> ?_⟩;rcases Ϟ.1 d with rfl | d
  ·exact⟨_,_,rfl,rfl⟩
  ·exact H c d
def Vv {l:List (Int×List Int)} (a:zb (jw ROu D w) q l):q.map idN=l.map (·.1)/\ ∀c∈q,∃i r,c= ι i::r/\r.length=1:=by
 induction l generalizing q with
 | nil=>rw[a.nil_r];exact⟨rfl,λc d=>by simp at d⟩
 | cons y l ih=>
  obtain⟨c,q',rfl,I,a'⟩:=a.uncons;obtain⟨G,H⟩:=ih a';obtain⟨v,rfl,_⟩:=I.read;refine⟨by rw[Ϛ,Ϛ,G];rfl,λc d=> ?_⟩;rcases Ϟ.1 d with rfl | d
  ·exact⟨_,_,rfl,rfl⟩
  ·exact H c d
def Z1 (h:LnX N w k vo s):Calls prog 182 #[γ k.L,ι 1] w λe w'=>(∃v,e= .returned v/\w'.ownsRow w.heap.size 3 1 v (s.A.map (·.id)).length ((s.A.map (·.id)).map (Value.int .i64)))/\LnX (xf N w w') w' k vo {s with A:=[]}/\jt k.muts w w':=by
 have c1:w.cell? ⟨k.L,1,ϋ⟩=ϊ (π (ϊ ⟨k.R1,0,ϋ⟩)):=qa h.blk 1 rfl;have G:=κ h;have ai:=κ h.dist;obtain⟨ax,U,au,av,aq,ar,aw,H,I⟩:=h.r1;have aj:=κ H;have ao:=κ (ZT I).2;have al:=κ (ZT I).1;have ap:Hid (∀c∈U,∀u∈c,u.oneCell'=ό):=κ λc az=>(H.qall c az).2
 have aA:U.length<=8:=by have:=H.fits;have:=H.pos;omega
 clear h H I
 go_enter func182,ntmps182
 go_wp2_with (first | (go_at_call 232;(go_call IN w k.R1 k.A1 s.room ax U au av aq ar aw aj.o as e w1 ⟨aB,rfl,ah,H,I⟩;have am:=κ ah;have ak:=κ H;have aa:=κ I;clear ah H I)) | (go_at_call 231;(go_call Nl w1 aB U w.heap.size am.o ao.o ap.o aA as e w2 ⟨⟨aZ,rfl,o2⟩,ag⟩;have an:=κ o2;have ab:=κ ag;clear o2 ag)))
 go_ret;obtain⟨⟨aE,aF,aG,aH,aI,aJ⟩,⟨aK,aL,aM,aN,aO⟩,⟨aQ,aR,aS,aT⟩,⟨aU,aV,aW⟩,⟨aX,aY⟩,_⟩:=ai.o;have O:jt (RgB k.R1 k.A1) w w2:=aa.o.more ab.o;have ae: ∀b,RgB k.R1 k.A1 b->k.muts b:=λb d=>ϕ (ϑ d)
 have Y:jt k.muts w w2:=O.mono ae;have af: ∀b,vo.ownBlock=ϊ b->vo.ownBlock=ϊ b∨w.heap.size<=b:=λb d=>ϑ d
 have ad: ∀b,RgB k.R1 k.A1 b->lnE N k vo b:=λb d=>kZ (ae b d)
 have J:=G.o.ok;obtain⟨aP,aC,aD,ay⟩:=ak.o;have ac:=Qv an.o aa.o.size;rw[al.o] at ac;exact⟨⟨_,rfl,ac⟩,G.o.make Y.size (O.blk G.o.blk X9) ⟨_,_,_,_,_,_,_,ay.more ab.o,trivial⟩ (G.o.r2.step O X9 X9 ad λb d=>ϑ (xE G.o.own af d)) (G.o.r3.step O X9 X9 ad λb d=>ϑ (xE G.o.own af d)) (G.o.rows Y) ⟨J.most,J.row,J.lt,J.sq,J.src⟩,Y⟩
def ZZ (h:LnX N w k vo s):Calls prog 182 #[γ k.L,ι 2] w λe w'=>(∃v,e= .returned v/\w'.ownsRow w.heap.size 3 1 v (s.B.map (·.1.id)).length ((s.B.map (·.1.id)).map (Value.int .i64)))/\LnX (xf N w w') w' k vo {s with B:=[]}/\jt k.muts w w':=by
 have c1:w.cell? ⟨k.L,2,ϋ⟩=ϊ (π (ϊ ⟨k.R2,0,ϋ⟩)):=qa h.blk 2 rfl;have G:=κ h;have ah:=κ h.dist;obtain⟨aw,U,ar,au,ap,aq,av,H,I⟩:=h.r2;have ai:=κ H;have an:=κ (VV I).2;have ak:=κ (VV I).1;have ao:Hid (∀c∈U,∀u∈c,u.oneCell'=ό):=κ λc ay=>(H.qall c ay).2
 have az:U.length<=8:=by have:=H.fits;have:=H.pos;omega
 clear h H I
 go_enter func182,ntmps182
 go_wp2_with (first | (go_at_call 235;(go_call QwI w k.R2 k.A2 s.room aw U ar au ap aq av ai.o as e w1 ⟨aA,rfl,ag,H,I⟩;have al:=κ ag;have aj:=κ H;have A2:=κ I;clear ag H I)) | (go_at_call 234;(go_call qfM w1 aA U w.heap.size al.o an.o ao.o az as e w2 ⟨⟨aY,rfl,o2⟩,af⟩;have am:=κ o2;have aa:=κ af;clear o2 af)))
 go_ret;obtain⟨⟨aD,aE,aF,aG,aH,aI⟩,⟨aJ,aK,aL,aM,aN⟩,⟨aP,aQ,aR,aS⟩,⟨aT,aU,aV⟩,⟨aW,aX⟩,_⟩:=ah.o;have O:jt (RgB k.R2 k.A2) w w2:=A2.o.more aa.o;have ad: ∀b,RgB k.R2 k.A2 b->k.muts b:=λb d=>ϕ (ϕ (ϑ d))
 have Y:jt k.muts w w2:=O.mono ad;have ae: ∀b,vo.ownBlock=ϊ b->vo.ownBlock=ϊ b∨w.heap.size<=b:=λb d=>ϑ d
 have ac: ∀b,RgB k.R2 k.A2 b->lnE N k vo b:=λb d=>kZ (ad b d)
 have J:=G.o.ok;obtain⟨aO,aB,aC,ax⟩:=aj.o;have ab:=Qv am.o A2.o.size;rw[ak.o] at ab;exact⟨⟨_,rfl,ab⟩,G.o.make Y.size (O.blk G.o.blk X9) (G.o.r1.step O X9 X9 ac λb d=>ϑ (xE G.o.own ae d)) ⟨_,_,_,_,_,_,_,ax.more aa.o,trivial⟩ (G.o.r3.step O X9 X9 ac λb d=>ϑ (xE G.o.own ae d)) (G.o.rows Y) ⟨J.most,J.row,J.lt,J.sq,J.src⟩,Y⟩
def ZY (h:LnX N w k vo s):Calls prog 182 #[γ k.L,ι 3] w λe w'=>(∃v,e= .returned v/\w'.ownsRow w.heap.size 3 1 v (s.C.map (·.1)).length ((s.C.map (·.1)).map (Value.int .i64)))/\LnX (xf N w w') w' k vo {s with C:=[]}/\jt k.muts w w':=by
 have c1:w.cell? ⟨k.L,3,ϋ⟩=ϊ (π (ϊ ⟨k.R3,0,ϋ⟩)):=qa h.blk 3 rfl;have G:=κ h;have ai:=κ h.dist;obtain⟨ax,U,au,av,aq,ar,aw,H,I⟩:=h.r3;have aj:=κ H;have ao:=κ (Vv I).2;have al:=κ (Vv I).1;have ap:Hid (∀c∈U,∀u∈c,u.oneCell'=ό):=κ λc az=>(H.qall c az).2
 have aA:U.length<=8:=by have:=H.fits;have:=H.pos;omega
 clear h H I
 go_enter func182,ntmps182
 go_wp2_with (first | (go_at_call 238;(go_call IM w k.R3 k.A3 s.room ax U au av aq ar aw aj.o as e w1 ⟨aB,rfl,ah,H,I⟩;have am:=κ ah;have ak:=κ H;have aa:=κ I;clear ah H I)) | (go_at_call 237;(go_call Nk w1 aB U w.heap.size am.o ao.o ap.o aA as e w2 ⟨⟨aZ,rfl,o2⟩,ag⟩;have an:=κ o2;have ab:=κ ag;clear o2 ag)))
 go_ret;obtain⟨⟨aE,aF,aG,aH,aI,aJ⟩,⟨aK,aL,aM,aN,aO⟩,⟨aQ,aR,aS,aT⟩,⟨aU,aV,aW⟩,⟨aX,aY⟩,_⟩:=ai.o;have O:jt (RgB k.R3 k.A3) w w2:=aa.o.more ab.o;have ae: ∀b,RgB k.R3 k.A3 b->k.muts b:=λb d=>ϕ (ϕ (ϕ d))
 have Y:jt k.muts w w2:=O.mono ae;have af: ∀b,vo.ownBlock=ϊ b->vo.ownBlock=ϊ b∨w.heap.size<=b:=λb d=>ϑ d
 have ad: ∀b,RgB k.R3 k.A3 b->lnE N k vo b:=λb d=>kZ (ae b d)
 have J:=G.o.ok;obtain⟨aP,aC,aD,ay⟩:=ak.o;have ac:=Qv an.o aa.o.size;rw[al.o] at ac;exact⟨⟨_,rfl,ac⟩,G.o.make Y.size (O.blk G.o.blk X9) (G.o.r1.step O X9 X9 ad λb d=>ϑ (xE G.o.own af d)) (G.o.r2.step O X9 X9 ad λb d=>ϑ (xE G.o.own af d)) ⟨_,_,_,_,_,_,_,ay.more ab.o,trivial⟩ (G.o.rows Y) ⟨J.most,J.row,J.lt,J.sq,J.src⟩,Y⟩
def vh (s:LnS) (n:Int):LnS:={s with A:=if n=1 then [] else s.A,B:=if n=2 then [] else s.B,C:=if n=3 then [] else s.C}
def Cm (h:LnX N w k vo s) (n:Int) (H:n=1∨n=2∨n=3):Calls prog 182 #[γ k.L,ι n] w λe w'=>(∃v,e= .returned v)/\LnX (xf N w w') w' k vo (vh s n)/\jt k.muts w w':=by
 rcases H with rfl | rfl | rfl
 ·refine(Z1 h).mono ?_;rintro e w' ⟨⟨v,rfl,_⟩,d,G⟩;exact⟨⟨v,rfl⟩,d,G⟩
 ·refine(ZZ h).mono ?_;rintro e w' ⟨⟨v,rfl,_⟩,d,G⟩;exact⟨⟨v,rfl⟩,d,G⟩
 ·refine(ZY h).mono ?_;rintro e w' ⟨⟨v,rfl,_⟩,d,G⟩;exact⟨⟨v,rfl⟩,d,G⟩
def zt (g b n:Int):Int×Int:=
 if 63<n-g then (n,1) else if 0<n-g then (n,bits .or .u64 (IntKind.u64.wrap (b* 2 ^ (n-g).toNat)) 1)
 else if-63<=n-g then (g,lay b (-(n-g)) 1 1) else (g,b)
def yi (g b m:Int):Bool:=decide (m<=g/\g-m<=63)&&b.toNat.testBit (g-m).toNat
def DV (i:Nat):Nat.testBit 1 i=decide (i=0):=by
 cases i with
 | zero=>rfl
 | succ i=>simp[Nat.testBit_succ]
def D7 (b:Int) (k:Nat) (H:U64 b) (O:0<k) (N:k<=63):
  U64 (bits .or .u64 (IntKind.u64.wrap (b* 2 ^ k)) 1)/\ ∀i:Nat,i<64->(bits .or .u64 (IntKind.u64.wrap (b* 2 ^ k)) 1).toNat.testBit i=(decide (i=0)||(decide (k<=i)&&b.toNat.testBit (i-k))):=by
 obtain⟨d,J⟩:=H;obtain⟨B,rfl⟩:=A4 d;have e:IntKind.u64.wrap ((B:Int)* 2 ^ k)=((B* 2 ^ k%2 ^ 64:Nat):Int):=by
  rw[IntKind.wrap_u64,J0,Int.natCast_mul];simp
 have I:B* 2 ^ k%2 ^ 64<2 ^ 64:=I2 _ ζ;have G:bits .or .u64 (IntKind.u64.wrap ((B:Int)* 2 ^ k)) 1=((B* 2 ^ k%2 ^ 64||| 1:Nat):Int):=by
  rw[e,show (1:Int)=((1:Nat):Int) from rfl,u64_or_nat _ _ τ τ]
 have U:(B* 2 ^ k%2 ^ 64||| 1)<2 ^ 64:=Nat.or_lt_two_pow I ζ;rw[G];refine⟨⟨τ,τ⟩,λi hi=> ?_⟩;rw[A5,A5,Nat.testBit_or,Nat.testBit_mod_two_pow,Nat.testBit_mul_two_pow,DV];simp only[hi,decide_true,I9];rw[Bool.or_comm]
def QD (g b n:Int):(zt g b n).1=max g n:=by
 unfold zt;split
 ·simp;omega
 ·split
  ·simp;omega
  ·split<;>(simp;omega)
def VG (g b n:Int) (d:U64 b):U64 (zt g b n).2:=by
 unfold zt;split
 ·exact⟨(by decide:(0:Int)<=1),(by decide:(1:Int)<=18446744073709551615)⟩
 ·split
  ·exact(D7 b _ d τ τ).1
  ·split
   ·exact EW _ _ _ _ d
   ·exact d
def EU (b k:Int) (G:U64 b) (d:0<=k/\k<=63) (i:Nat) (hi:i<64):(lay b k 1 1).toNat.testBit i=(decide (i=k.toNat)||b.toNat.testBit i):=by
 rw[Py b k 1 1 ⟨d.1,d.2,τ,τ⟩,Qa];simp only[hi,decide_true,I9];by_cases h:i=k.toNat
 ·subst h;simp
 ·rw[Ϗ (by simp;omega)];simp[h]
def ZR (g b n m:Int) (N:U64 b):yi (zt g b n).1 (zt g b n).2 m=(decide (m<=max g n/\max g n-m<=63)&&(decide (m=n)||yi g b m)):=by
 have O:=QD g b n;by_cases hin:m<=max g n/\max g n-m<=63
 ·rw[show yi (zt g b n).1 (zt g b n).2 m=(zt g b n).2.toNat.testBit (max g n-m).toNat from by unfold yi;rw[O];simp[hin]];simp only[hin,and_self,decide_true,I9];unfold zt;by_cases h1:63<n-g
  ·rw[ϓ h1];have e:max g n=n:=by omega
   rw[e] at *;unfold yi;by_cases d:m=n
   ·subst d;simp
   ·have:(n-m).toNat≠0:=by omega
    simp only[d,decide_false,Bool.false_or];have I: ¬(m<=g/\g-m<=63):=by omega
    simp only[I,decide_false,J1];rw[show (1:Int).toNat=1 from rfl,DV];simp;omega
  ·rw[Ϗ h1];by_cases I:0<n-g
   ·rw[ϓ I];have e:max g n=n:=by omega
    rw[e] at *;simp only[];rw[(D7 b (n-g).toNat N τ τ).2 _ τ];unfold yi;by_cases d:m=n
    ·subst d;simp
    ·have G:(n-m).toNat≠0:=by omega
     by_cases h4:m<=g
     ·have J:(n-g).toNat<=(n-m).toNat:=by omega
      have H:m<=g/\g-m<=63:=by omega
      simp only[d,G,J,H,and_self,decide_true,decide_false,Bool.false_or,I9];rw[show (n-m).toNat-(n-g).toNat=(g-m).toNat from by omega]
     ·have J: ¬(n-g).toNat<=(n-m).toNat:=by omega
      simp[d,G,h4,J]
   ·rw[Ϗ I];have e:max g n=g:=by omega
    rw[e] at *;by_cases G: -63<=n-g
    ·rw[ϓ G,EU b _ N τ _ τ];unfold yi;have H:m<=g/\g-m<=63:=by omega
     have U:decide ((g-m).toNat=(-(n-g)).toNat)=decide (m=n):=by rw[D2];simp;omega
     rw[U];simp[H]
    ·rw[Ϗ G];unfold yi;have d:m≠n:=by omega
     have H:m<=g/\g-m<=63:=by omega
     simp[d,H]
 ·have:yi (zt g b n).1 (zt g b n).2 m=ύ:=by
   unfold yi;rw[O];simp only[hin,decide_false,J1]
  rw[this];simp only[hin,decide_false,J1]
def Eb (g b c:Int) (H:U64 b) (I:U64 c) (h: ∀m,yi g b m=yi g c m):b=c:=by
 obtain⟨d,J⟩:=H;obtain⟨G,c1⟩:=I;obtain⟨B,rfl⟩:=A4 d;obtain⟨C,rfl⟩:=A4 G;have:B=C:=by
  apply BN τ τ;intro i hi;have:=h (g-i);unfold yi at this;have e:g-(i:Int)<=g/\g-(g-(i:Int))<=63:=by omega
  simp only[e,and_self,decide_true,I9,A5] at this
  rwa [show (g-(g-(i:Int))).toNat=i from by omega] at this
 rw[this]
def WX {g b m:Int} (h:yi g b m=ό):m<=g/\g-m<=63:=by
 unfold yi at h;simp only[C2,C3] at h;exact h.1
def IC (g b n:Int) (d:U64 b) (h:g-63<=n):((zt g b n).1==g&&(zt g b n).2==b)=yi g b n:=by
 have G:=QD g b n;by_cases hle:n<=g
 ·have e:(zt g b n).1=g:=by rw[G];omega
  rw[e];simp only[BEq.rfl,I9];by_cases hk:yi g b n=ό
  ·rw[hk,P6];apply Eb g _ _ (VG g b n d) d;intro m;have:=ZR g b n m d;rw[e] at this;rw[this];by_cases hm:m=n
   ·subst hm;rw[hk];have:=WX hk;simp;omega
   ·by_cases hkm:yi g b m=ό
    ·have:=WX hkm;simp[hkm];omega
    ·simp only[Bool.not_eq_true] at hkm;simp[hm,hkm]
  ·simp only[Bool.not_eq_true] at hk;rw[hk];simp only[beq_eq_false_iff_ne,ne_eq];intro H;have:=ZR g b n n d;rw[e,H,hk] at this;simp at this;omega
 ·have e:((zt g b n).1==g)=ύ:=by rw[G];simp;omega
  rw[e,J1];unfold yi;have: ¬(n<=g/\g-n<=63):=by omega
  simp[this]
def Gx:prog.eqGuardType prog.depth 189=ύ:=by kernel_rfl
def Ya (n:Int) (w:World):
  Calls prog 276 #[ι n] w λe w'=>e= .returned (θ #[ι n,ψ 1])/\ql w w':=by
 go_enter func276,ntmps276
 go_wp2;exact bodyPost_ret (v:= θ #[ι n,ψ 1]) (by simp[results,results276,go_sem]) rfl ⟨rfl,(ql.refl _).al _⟩
def CJ (g b n:Int) (H: -2305843009213693952<=g/\g<=2305843009213693952) (I: -2305843009213693952<=n/\n<=2305843009213693952) (O:63<n-g) (w:World):
  Calls prog 275 #[θ #[ι g,ψ b],ι n] w λe w'=>e= .returned (θ #[ι n,ψ 1])/\ql w w':=by
 obtain⟨J,N⟩:=H;obtain⟨n1,n2⟩:=I
 go_enter func275,ntmps275
 go_wp2_with (go_at_call 276;refine(Ya n _).mono ?_;rintro e w1 ⟨rfl,d⟩;obtain⟨G,U⟩:=d.rules)
 refine bodyPost_ret (v:= θ #[ι n,ψ 1]) (by simp[results,results275,go_sem,G]) rfl ⟨rfl, ?_⟩;exact((((ql.refl w).al _).al _ |>.trans d).st η _).st η _
def FQ (g b n:Int) (d: -2305843009213693952<=g/\g<=2305843009213693952) (G: -2305843009213693952<=n/\n<=2305843009213693952) (J:n-g<=63) (N:0<n-g) (w:World):
  Calls prog 275 #[θ #[ι g,ψ b],ι n] w λe w'=>e= .returned (θ #[ι n,ψ (bits .or .u64 (IntKind.u64.wrap (b* 2 ^ (n-g).toNat)) 1)])/\ql w w':=by
 obtain⟨H,I⟩:=d;obtain⟨n1,n2⟩:=G
 go_enter func275,ntmps275
 go_wp2;refine bodyPost_ret (v:= θ #[ι n,ψ (bits .or .u64 (IntKind.u64.wrap (b* 2 ^ (n-g).toNat)) 1)]) (by simp[results,results275,go_sem]) rfl ⟨rfl, ?_⟩;exact((ql.refl w).al _).al _
def CI (g b n:Int) (d: -2305843009213693952<=g/\g<=2305843009213693952) (G: -2305843009213693952<=n/\n<=2305843009213693952) (J:n-g< -63) (w:World):
  Calls prog 275 #[θ #[ι g,ψ b],ι n] w λe w'=>e= .returned (θ #[ι g,ψ b])/\ql w w':=by
 obtain⟨H,I⟩:=d;obtain⟨n1,n2⟩:=G
 go_enter func275,ntmps275
 go_wp2;refine bodyPost_ret (v:= θ #[ι g,ψ b]) (by simp[results,results275,go_sem]) rfl ⟨rfl, ?_⟩;exact((ql.refl w).al _).al _
def FR (g b n:Int) (I: -2305843009213693952<=g/\g<=2305843009213693952) (J: -2305843009213693952<=n/\n<=2305843009213693952) (G:U64 b) (aa:n-g<=0) (ab: -63<=n-g) (w:World):
  Calls prog 275 #[θ #[ι g,ψ b],ι n] w λe w'=>e= .returned (θ #[ι g,ψ (lay b (-(n-g)) 1 1)])/\ql w w':=by
 obtain⟨U,Y⟩:=I;obtain⟨n1,n2⟩:=J;have H:=κ G;clear G;have N: ∀x:qt (w.alloc (.cells #[ι g,ψ b] 189)),x.w'.cell? ⟨w.heap.size,0,ϋ⟩=ϊ (ι g):=λx=>x.new 0 rfl
 have O: ∀x:qt (w.alloc (.cells #[ι g,ψ b] 189)),x.w'.cell? ⟨w.heap.size,1,ϋ⟩=ϊ (ψ b):=λx=>x.new 1 rfl
 go_enter func275,ntmps275
 go_wp2_with fail
 refine Qn (w.alloc (.cells #[ι g,ψ b] 189)) 8 9 [6,8] ?_
 refine Qq6 ?_
 (refine Ql ?_;intro K d)
 refine(FV b 1 _ _ H.o ζ (by unfold I64;omega) ζ _).mono ?_;rintro e w2 ⟨rfl,ac,rfl⟩;refine⟨_,rfl,qk ((X6.dr _).dr _),d _ _ ?_⟩;clear d K
 refine Qq1 ?_
 (refine Qe ?_;intro K d)
 refine d _ _ ?_;clear d K;refine qA ?_;go_wp2;refine bodyPost_ret (v:= θ #[ι g,ψ (lay b (-(n-g)) 1 1)]) (by simp[results,results275,go_sem]) rfl ⟨rfl, ?_⟩;exact(((((ql.refl w).al _).al _).dr _).st η _).st η _
def Mid (n:Int):Prop:= -2305843009213693952<=n/\n<=2305843009213693952
instance (n:Int):Decidable (Mid n):=by unfold Mid;infer_instance
def gS (g b n:Int) (d:Mid g) (G:Mid n) (H:U64 b) (w:World):
  Calls prog 275 #[θ #[ι g,ψ b],ι n] w λe w'=>e= .returned (θ #[ι (zt g b n).1,ψ (zt g b n).2])/\ql w w':=by
 by_cases h1:63<n-g
 ·rw[show zt g b n=(n,1) from by unfold zt;rw[ϓ h1]];exact CJ g b n d G h1 w
 ·by_cases h2:0<n-g
  ·rw[show zt g b n=(n,bits .or .u64 (IntKind.u64.wrap (b* 2 ^ (n-g).toNat)) 1) from by unfold zt;rw[Ϗ h1,ϓ h2]];exact FQ g b n d G τ h2 w
  ·by_cases h3: -63<=n-g
   ·rw[show zt g b n=(g,lay b (-(n-g)) 1 1) from by unfold zt;rw[Ϗ h1,Ϗ h2,ϓ h3]];exact FR g b n d G H τ h3 w
   ·rw[show zt g b n=(g,b) from by unfold zt;rw[Ϗ h1,Ϗ h2,Ϗ h3]];exact CI g b n d G τ w
def FX (g b n:Int) (Y:Mid g) (aa:Mid n) (O:U64 b) (w:World):
  Calls prog 285 #[θ #[ι g,ψ b],ι n] w λe w'=>e= .returned (μ (yi g b n))/\ql w w':=by
 have I:=κ O;have J:=κ Y;have N:=κ aa;have U:U64 b:=O;clear O;obtain⟨ae,af⟩:=Y;obtain⟨n1,n2⟩:=aa;have ac: ∀x:qt (w.alloc (.cells #[ι g,ψ b] 189)),x.w'.cell? ⟨w.heap.size,0,ϋ⟩=ϊ (ι g):=λx=>x.new 0 rfl
 have ad: ∀x:qt (w.alloc (.cells #[ι g,ψ b] 189)),x.w'.cell? ⟨w.heap.size,1,ϋ⟩=ϊ (ψ b):=λx=>x.new 1 rfl
 have ab:=Gx;by_cases hlt:g-63<=n
 ·have H:=IC g b n U hlt;clear U;by_cases e1:(zt g b n).1=g
  ·by_cases e2:(zt g b n).2=b
   ·have d:=κ (show ό=yi g b n by rw[<-H];simp[e1,e2]);clear H
    go_enter func285,ntmps285
    go_wp2;refine qD (w.alloc (.cells #[ι g,ψ b] 189)) (ql.refl _) ξ ξ ?_
    repeat (go_big_quiet_step ((go_at_call 275;exact j6 (gS g b n J.o N.o I.o _))))
    refine wpQuiet_nil ?_;intro _ G;obtain⟨x,rfl⟩:=G;go_wp2;go_ret;exact⟨qZ d.o,X6.trans x.h⟩
   ·have d:=κ (show ύ=yi g b n by rw[<-H];simp[e2]);clear H
    go_enter func285,ntmps285
    go_wp2;refine qD (w.alloc (.cells #[ι g,ψ b] 189)) (ql.refl _) ξ ξ ?_
    repeat (go_big_quiet_step ((go_at_call 275;exact j6 (gS g b n J.o N.o I.o _))))
    refine wpQuiet_nil ?_;intro _ G;obtain⟨x,rfl⟩:=G;go_wp2;go_ret;exact⟨qZ d.o,X6.trans x.h⟩
  ·have d:=κ (show ύ=yi g b n by rw[<-H];simp[e1]);clear H
   go_enter func285,ntmps285
   go_wp2;refine qD (w.alloc (.cells #[ι g,ψ b] 189)) (ql.refl _) ξ ξ ?_
   repeat (go_big_quiet_step ((go_at_call 275;exact j6 (gS g b n J.o N.o I.o _))))
   refine wpQuiet_nil ?_;intro _ G;obtain⟨x,rfl⟩:=G;go_wp2;go_ret;exact⟨qZ d.o,X6.trans x.h⟩
 ·have d:=κ (show ύ=yi g b n by unfold yi;simp[show ¬(n<=g/\g-n<=63) by omega]);clear U;have ag:decide (g-63<=n)=ύ:=by simp;omega
  clear hlt
  go_enter func285,ntmps285
  go_wp2;refine qD (w.alloc (.cells #[ι g,ψ b] 189)) (ql.refl _) ξ ξ ?_
  repeat (go_big_quiet_step (fail))
  refine wpQuiet_nil ?_;intro _ G;obtain⟨x,rfl⟩:=G;go_wp2;go_ret;exact⟨qZ d.o,X6.trans x.h⟩
abbrev Hd:=Int×Int×Int
variable {L T:List Hd} {h:Hd} {p:Hd->Bool}
def hd1 (h:Hd):List Value:=[.int .i64 h.1,.int .i64 h.2.1,.int .i64 h.2.2]
def hdC (l:List Hd):List Value:=l.flatMap hd1
def gP (h:Hd) (l:List Hd):hdC (h::l)=hd1 h++hdC l:=rfl
def uT (k l:List Hd):hdC (k++l)=hdC k++hdC l:=by simp[hdC]
def yu (l:List Hd):(hdC l).length=l.length* 3:=by
 induction l with
 | nil=>rfl
 | cons p l ih=>rw[gP,ώ,ih,Ϙ];simp[hd1];omega
def Ac: ∀(l:List Hd) (i:Nat),i<l.length->(hdC l)[i* 3]? =ϊ (ι (l.getD i (0,0,0)).1)/\(hdC l)[i* 3+1]? =ϊ (ι (l.getD i (0,0,0)).2.1)/\(hdC l)[i* 3+2]? =ϊ (ι (l.getD i (0,0,0)).2.2)
 | [],_,h=>ϧ h η
 | h::l,0,_=>⟨rfl,rfl,rfl⟩
 | h::l,i+1,hi=>by
  have d:=Ac l i (by simpa using hi);have e: ∀c,(hdC (h::l))[(i+1)* 3+c]? =(hdC l)[i* 3+c]? :=by
   intro c;rw[gP,ε (by simp[hd1];omega)]
   congr 1
   simp[hd1];omega
  have e0:=e 0;rw[E9,E9] at e0;rw[e0,e 1,e 2];exact d
def YE (l:List Hd): ∀u∈hdC l,u.oneCell'=ό:=by
 intro u d;obtain⟨h,_,d⟩:=List.mem_flatMap.1 d;simp[hd1] at d;rcases d with rfl | rfl | rfl<;>rfl
def zT (w:World) (base:Nat) (v:Value) (L:List Hd):Prop:=w.ownsRow base 371 3 v L.length (hdC L)
def zT.more (h:zT w base v L) (m:ql w w'):zT w' base v L:=jE h m
def zT.shape (h:zT w base v L): ∃oa cap,v= δ oa L.length cap/\(L.length:Int)<=9223372036854775807:=by
 rcases h.2 with ⟨rfl,d⟩ | ⟨g,cap,cur,rfl,_,_,H,G,_⟩
 ·exact⟨ϋ,0,by rw[d],τ⟩
 ·exact⟨_,cap,rfl,by unfold maxLen at G;omega⟩
def zT.cell (h:zT w base v L) (i:Nat) (hi:i<L.length):
  ∃g cap,v= δ (ϊ ⟨g,0,ϋ⟩) L.length cap/\base<=g/\g<w.heap.size/\ ∀x,ql w x->x.cell? ⟨g,i* 3,ϋ⟩=ϊ (ι (L.getD i (0,0,0)).1)/\x.cell? ⟨g,i* 3+1,ϋ⟩=ϊ (ι (L.getD i (0,0,0)).2.1)/\x.cell? ⟨g,i* 3+2,ϋ⟩=ϊ (ι (L.getD i (0,0,0)).2.2):=by
 rcases h.2 with ⟨rfl,O⟩ | ⟨g,cap,cur,rfl,I,d,Y,U,aa,N⟩
 ·omega
 ·refine⟨g,cap,rfl,I,lt_of_block d,λx m=> ?_⟩;obtain⟨a0,G,H⟩:=Ac L i hi;have key: ∀j,j<L.length* 3->x.cell? ⟨g,j,ϋ⟩=(hdC L)[j]? :=by
   intro j J;rw[m.cells g j (lt_of_block d),cell_of_row w g _ cur _ (0,0) d,<-N,C0,ϓ J];simp
  exact⟨by rw[key _ τ];exact a0,by rw[key _ τ];exact G,by rw[key _ τ];exact H⟩
def Jk (p:Hd->Bool) (L:List Hd):Int:=if L.findIdx p<L.length then (L.findIdx p:Int) else -1
def Cf {k:Nat} (d:k<L.length) (h:p (L.getD k (0,0,0))=ό) (G: ∀j,j<k->p (L.getD j (0,0,0))=ύ):Jk p L=k:=by
 have e:L.findIdx p=k:=by
  rw[List.findIdx_eq d];rw[ϒ,ϖ d,ϰ] at h;refine⟨h,λj H=> ?_⟩;have:=G j H
  rwa [ϒ,ϖ τ,ϰ] at this
 unfold Jk;rw[e,ϓ d]
def PF (G: ∀j,j<L.length->p (L.getD j (0,0,0))=ύ):Jk p L= -1:=by
 have e:L.findIdx p=L.length:=by
  rw[List.findIdx_eq_length];intro x H;obtain⟨j,d,rfl⟩:=B4.1 H;have:=G j d
  rwa [ϒ,ϖ d,ϰ] at this
 unfold Jk;rw[e,Ϗ (Nat.lt_irrefl _)]
def Cg (p:Hd->Bool) (L:List Hd):decide (0<=Jk p L)=L.any p:=by
 unfold Jk;by_cases h:L.findIdx p<L.length
 ·rw[ϓ h,ϻ τ];exact(List.any_eq_true.2 ⟨L[L.findIdx p],ϥ _,List.findIdx_getElem⟩).symm
 ·rw[Ϗ h];have e:L.any p=ύ:=by
   rw[R0];intro x G d;exact h (List.findIdx_lt_length_of_exists ⟨x,G,d⟩)
  rw[e];rfl
def ZA (g:Nat) (lb:Array Value) (p:Hd->Bool) (L:List Hd) (w:World):Prop:=
 ∀(W:World) (x:Hd),x∈L->ql w W->Calls Tryz.prog g (#[.agg #[.int .i64 x.1,.int .i64 x.2.1,.int .i64 x.2.2]]++lb) W λe w'=>e= .returned (.bool (p x))/\ql W w'
def wJ (g:Nat) (ag:Array Value) (p:Hd->Bool) (ab: ∀args w,(callFunc g args).run prog w= .ok (.enter g args) w) (L:List Hd) (v:Value) (base:Nat) (w:World) (row:zT w base v L) (af:ZA g ag p L w):
  Calls prog 286 #[v,.func (.func g) #[] ag] w λe w'=>e= .returned (ι (Jk p L))/\ql w w':=by
 have ai:=κ row;have ah:=κ af;obtain⟨ar,cap,rfl,ao⟩:=row.shape;clear row af
 go_enter func286,ntmps286
 go_wp2
 go_loopw [5,8] (λ_ aa wr=> ∃k:Nat,k<=L.length/\aa= ι k/\(∀j,j<k->p (L.getD j (0,0,0))=ύ)/\ql w wr) (λ_ aa _=>L.length-(intOf aa).toNat)
 case atStart=>exact⟨0,τ,rfl,λj ae=>ϧ ae (Nat.not_lt_zero _),ql.refl _⟩
 case round=>
  obtain⟨k,aq,rfl,ac,J⟩:=hrel;have I:=κ ac;have O:=κ J;clear ac;by_cases hlt:k<L.length
  ·have ak:(k:Int)<(L.length:Int):=by omega
   obtain⟨b,c,e,_,ap,ad⟩:=ai.o.cell k hlt;cases e;obtain⟨aj,c1,c2⟩:=ad wr J;have d:=ah.o wr (L.getD k (0,0,0)) (by rw[ϒ,ϖ hlt];exact ϥ hlt) J;have Y:Hid (p (L.getD k (0,0,0))=ό->Jk p L=k):=κ λh=>Cf hlt h I.o
   have U:Hid (p (L.getD k (0,0,0))=ύ-> ∀j,j<k+1->p (L.getD j (0,0,0))=ύ):=κ λh j ae=>by
    by_cases e:j=k
    ·subst e;exact h
    ·exact I.o j τ
   clear ad J I;generalize L.getD k (0,0,0)=y at *;obtain⟨al,am,an⟩:=y;simp only at aj c1 c2 d;cases hq:p (al,am,an) with
   | true=>
    rw[hq] at d;have G:=κ (Y.o hq);clear Y U hq
    go_wp2_with (refine d.mono ?_;rintro e w' ⟨rfl,H⟩;have N:=κ H;clear H d ab)
    go_ret;exact⟨by rw[G.o];rfl,O.o.trans N.o⟩
   | false=>
    rw[hq] at d;have G:=κ (U.o hq);clear Y U hq
    go_wp2_with (refine d.mono ?_;rintro e w' ⟨rfl,H⟩;have N:=κ H;clear H d ab)
    go_roundw
    case rel=>exact⟨k+1,τ,by go_num,G.o,O.o.trans N.o⟩
    case measure=>simp[intOf];omega
  ·obtain rfl:k=L.length:=by omega
   have G:=κ (PF I.o);have ak: ¬(L.length:Int)<(L.length:Int):=by omega
   go_wp2;go_ret;exact⟨by rw[G.o];rfl,O.o⟩
def xt (g:Nat) (d:Array Value) (p:Hd->Bool) (J: ∀args w,(callFunc g args).run prog w= .ok (.enter g args) w) (L:List Hd) (v:Value) (base:Nat) (w:World) (row:zT w base v L) (G:ZA g d p L w):
  Calls prog 270 #[v,.func (.func g) #[] d] w λe w'=>e= .returned (μ (L.any p))/\ql w w':=by
 have I:=κ row;have H:=κ G;obtain⟨U,cap,rfl,O⟩:=row.shape;rw[<-Cg];clear row G
 go_enter func270,ntmps270
 go_wp2_with (go_at_call 286;((with_reducible refine(wJ g d p J L _ base _ I.o H.o).mono ?_);rintro e w1 ⟨rfl,N⟩))
 go_ret;exact⟨rfl,N⟩
def xO (cur:List Value) (o:Nat) (vs:List Value):List Value:=cur.take o++vs++cur.drop (o+vs.length)
def ut {cur d:List Value} {o:Nat} (h:o+d.length<=cur.length):(xO cur o d).length=cur.length:=by
 unfold xO;rw[ώ,ώ,Ϥ,Ϭ];omega
def jM {g:Nat} {cur:Array Value} (h:w.heap[g]? =ϊ (.cells cur e (0,0))) (cs:Array Value):(w.setRow g cs).heap[g]? =ϊ (.cells cs e (0,0)):=setRow_heap w g cur cs e (0,0) h
def jt.setRow (w:World) (g:Nat) (cs:Array Value):jt (λk=>k=g) w (w.setRow g cs):=by
 refine⟨rfl,rfl,rfl,by simp[World.setRow],λb G d=> ?_⟩;unfold World.setRow;simp only;rw[F8,Ϗ (λe=>d e.symm)]
def yN (w:World) (t ad e:TypeId) (i:TypeInfo) (ac:P.underlying t=ϊ (.slice e)) (hi:P.info? e=ϊ i) (g o G J:Nat) (cur:Array Value) (Y:w.heap[g]? =ϊ (.cells cur e (0,0)))
  (a:Addr) (d I:Nat) (cs:List Value) (aa:cs.length=Nat.min d G* i.size) (ab: ∀j v,cs[j]? =ϊ v->w.cell? (a.add j)=ϊ v) (U:o+cs.length<=cur.size) (N: ∀v∈cs,v.oneCell'=ό):
  (Builtin.copy_ #[t,t] ad #[δ (ϊ ⟨g,o,ϋ⟩) G J,δ (ϊ a) d I]).run P w= .ok (goInt (Nat.min d G)) (w.setRow g (xO cur.toList o cs).toArray):=by
 have O:=run_firstCells_some (P:=P) (w:=w) i.size (Nat.min d G) a d I cs aa ab;have H:=run_storeCells_at P g o e cs 0 cur w Y (by simpa using U) N;simp only[E9] at H;unfold xO;simp[Builtin.copy_,run_underlying ac,Builtin.lenOf,sizeOf,typeInfo,hi,O,H]
def Zi (w:World) (t O e:TypeId) (z:Value) (J:P.underlying t=ϊ (.slice e)) (N:(zeroValue e).run P w= .ok z w) (g o n c:Nat) (U:0<n) (cur:Array Value) (I:w.heap[g]? =ϊ (.cells cur e (0,0)))
  (H:o+(Builtin.zeroCells z.cells n).toList.length<=cur.size) (G: ∀v∈(Builtin.zeroCells z.cells n).toList,v.oneCell'=ό):
  (Builtin.clear_ #[t] O #[δ (ϊ ⟨g,o,ϋ⟩) n c]).run P w= .ok (.tuple #[]) (w.setRow g (xO cur.toList o (Builtin.zeroCells z.cells n).toList).toArray):=by
 have d:=run_storeCells_at P g o e (Builtin.zeroCells z.cells n).toList 0 cur w I (by simpa using H) G;simp only[E9] at d;obtain⟨m,rfl⟩: ∃m,n=m+1:=⟨n-1,τ⟩;unfold xO;simp[Builtin.clear_,run_underlying J,N,d]
def Jo
  (G:o.guard=ϋ) (s x:Operand) (t t':TypeId) (H:o.op=Op.call {callee:=Callee.builtin Builtin.append,args:= #[s,x],argTypes:= #[t,t']})
  (v u:Value) (J:a.eval s=v) (O:a.eval x=u) (I:(Builtin.append_ #[t,t'] o.type #[v,u]).run P w= .ok v' w') (d:K (a.put o.dst v') w'):
  if Region.wanted o (yielded ops a.tmps)=ό then Oper.wp P o a w K Q else E:=by
 have N:Region.wanted o (yielded ops a.tmps)=ό:=by simp[Region.wanted,G]
 rw[ϓ N];unfold Oper.wp;simp[execOp,H,resolve,invoke,builtin,J,O,I,Result.andThen];exact d
def Gt (w:World):(zeroValue 371).run prog w= .ok (θ #[ι 0,ι 0,ι 0]) w:=by kernel_rfl
def KN:(Builtin.zeroCells (θ #[ι 0,ι 0,ι 0]).cells 1).toList=[ι 0,ι 0,ι 0]:=by kernel_rfl
def Vc (h:Hd) (T:List Hd) (v:Value) (base:Nat) (w:World) (row:zT w base v (h::T)):
  Calls prog 274 #[v,ι 0,ι 1] w λe w'=> ∃v',e= .returned v'/\zT w' base v' T/\jt (λk=>v.ownBlock=ϊ k) w w'/\v'.ownBlock=v.ownBlock:=by
 obtain⟨ag,⟨_,aa⟩ | ⟨g,cap,cur,rfl,ar,J,U,ab,ac,Y⟩⟩:=row
 ·simp at aa
 rw[Ϙ] at ag U Y ⊢;obtain⟨ax,aj,av,am,aw⟩:=info_parts (P:=prog) (e:=371) (z:= θ #[ι 0,ι 0,ι 0]) (size:=3) (bytes:=24) ξ;obtain⟨n,O⟩:=ν (T.length);rw[O] at ag U Y ⊢;have d:(hdC T).length=n* 3:=by rw[yu,O]
 have ai:cur.toList.length=cap* 3:=by simpa using ac
 obtain⟨A,ay,ak⟩: ∃A:Addr,(if cap=1 then ϊ (⟨g,0,ϋ⟩:Addr) else ϊ ⟨g,3,ϋ⟩)=ϊ A/\ ∀j u,(hdC T)[j]? =ϊ u->w.drew.cell? (A.add j)=ϊ u:=by
  by_cases h1:cap=1
  ·refine⟨⟨g,0,ϋ⟩,by simp[h1],λj u H=> ?_⟩;have aa:(hdC T).length=0:=by rw[d];omega
   rw[K4.1 aa] at H;simp at H
  ·refine⟨⟨g,3,ϋ⟩,by simp[h1],λj u H=> ?_⟩;have aC:j<n* 3:=by rw[<-d];exact(ϣ.1 H).1
   rw[Addr.add_lit];show w.cell? ⟨g,3+j,ϋ⟩=ϊ u;rw[cell_of_row w g _ cur _ (0,0) J];have e:(hdC (h::T))[3+j]? =ϊ u:=by
    rw[gP,ε (by simp[hd1])]
    simpa [hd1] using H
   rw[<-Y,C0,ϓ τ] at e
   simpa using e
 have ae: ∀G,(Builtin.append_ #[187,187] G #[δ (ϊ ⟨g,0,ϋ⟩) 0 cap,δ (ϊ A) n (cap-1)]).run prog w.drew= .ok (δ (ϊ ⟨g,0,ϋ⟩) n cap) (w.drew.setRow g (hdC T++cur.toList.drop (n* 3)).toArray):=by
  intro G;have:=run_append_room (P:=prog) (w:=w.drew) 187 G 371 ax underlying187 aj g 0 cap cur J A n (cap-1) (hdC T) (by rw[am];exact d) ak (YE T) τ (by rw[d];have:cur.size=cap* 3:=ac;omega);rw[G5,N4,G5,U2,I0,d] at this;exact this
 obtain⟨W1,I⟩: ∃W1,W1=w.drew.setRow g (hdC T++cur.toList.drop (n* 3)).toArray:=⟨_,rfl⟩;have ad:W1.heap[g]? =ϊ (.cells (hdC T++cur.toList.drop (n* 3)).toArray 371 (0,0)):=by rw[I];exact jM (w:=w.drew) J _
 have ah:jt (λk=>k=g) w W1:=by rw[I];exact(show jt (λk=>k=g) w w.drew from jt.of_more (ql.drewN w 1)).trans (jt.setRow w.drew g _)
 have N:(hdC T++cur.toList.drop (n* 3)).length=cap* 3:=by rw[ώ,Ϭ,d,ai];omega
 have af: ∀G c,(Builtin.clear_ #[187] G #[δ (ϊ ⟨g,n* 3,ϋ⟩) 1 c]).run prog W1= .ok (.tuple #[]) (W1.setRow g (xO (hdC T++cur.toList.drop (n* 3)) (n* 3) [ι 0,ι 0,ι 0]).toArray):=by
  intro G c;have:=Zi (P:=prog) W1 187 G 371 (θ #[ι 0,ι 0,ι 0]) underlying187 (Gt W1) g (n* 3) 1 c ζ _ ad (by rw[KN];show n* 3+3<=_;rw[G7,N];omega) (by rw[KN];intro v al;simp at al;rw[al];rfl);rw[KN] at this
  simpa using this
 have ao:Hid (zT (W1.setRow g (xO (hdC T++cur.toList.drop (n* 3)) (n* 3) [ι 0,ι 0,ι 0]).toArray) base (δ (ϊ ⟨g,0,ϋ⟩) n cap) T):=κ (by
  refine⟨by rw[yu],ϕ ⟨g,cap,_,by rw[O],ar,jM ad _,τ,ab, ?_, ?_⟩⟩
  ·rw[G7,ut (by rw[N];show n* 3+3<=_;omega),N]
  ·unfold xO;rw[O];simp only[ϭ]
   rw[I7 (by rw[Ϥ,ώ,d];omega),P8,X2,I7 (by rw[d];exact ϔ _),K9 (by rw[d];exact ϔ _)])
 have an:Hid (jt (λk=>k=g) w (W1.setRow g (xO (hdC T++cur.toList.drop (n* 3)) (n* 3) [ι 0,ι 0,ι 0]).toArray)):=κ (ah.trans (jt.setRow W1 g _));rw[<-I] at ae;have ap:=κ ae;have aq:=κ af;have az:1<=cap:=by omega
 have aE:n+1<=cap:=U;have aA:(cap:Int)<=9223372036854775807:=by unfold maxLen at ab;omega
 generalize W1.setRow g (xO (hdC T++cur.toList.drop (n* 3)) (n* 3) [ι 0,ι 0,ι 0]).toArray=W2 at *;clear ae af ak ag Y ac ai d J ad ah N I ab aj av am aw U;have mixed:prog.follows Departure.mixedOrders=ό:=by kernel_rfl
 have aD:(1:Int)<=(n:Int)+1:=by omega
 go_enter func274,ntmps274
 go_wp2_with fail
 go_region_law_o (refine Jo rfl (.tmp 22) (.tmp 25) 187 187 rfl _ _ (by simp[Act.eval,Act.put]) (by simp[Act.eval,Act.put]) (ap.o _) ?_)
 have af:=aq.o;have aB: ¬cap=n:=by omega
 go_wp2;go_ret;exact⟨_,rfl,ao.o,an.o.mono λk au=>by subst au;rfl,rfl⟩
section
open Go.RowKit Go.Lib
def gO (A B d:List Value):xO (A++B) A.length d=A++(d++B.drop d.length):=by
 unfold xO;rw[V4,ϭ]
 congr 2
 rw[<-List.drop_drop,V5]
def Et {A Z D X V:List Value} (G:Z.length=V.length):xO (xO (A++(Z++D)) (A.length+Z.length) X) A.length V=A++(V++(X++D.drop X.length)):=by
 have d:xO (A++(Z++D)) (A.length+Z.length) X=A++(Z++(X++D.drop X.length)):=by
  have:=gO (A++Z) D X;rw[ώ] at this
  simpa only[ϭ] using this
 rw[d,gO,<-G,V5]
def Bh {A Z D X V:List Value} (d:Z.length=V.length):xO (xO (A++(Z++D)) A.length V) (A.length+V.length) X=A++(V++(X++D.drop X.length)):=by
 rw[gO,<-d,V5];have:=gO (A++V) D X;rw[ώ] at this;rw[d]
 simpa only[ϭ] using this
section
variable {P:Program}
def uH
  (N:o.guard=ϋ) (d x:Operand) (G H:TypeId) (O:o.op=Op.call {callee:=Callee.builtin Builtin.copy,args:= #[d,x],argTypes:= #[G,H]})
  (v u:Value) (J:a.eval d=v) (aa:a.eval x=u) (U:(Builtin.copy_ #[G,H] o.type #[v,u]).run P w= .ok v' w') (I:K (a.put o.dst v') w'):
  if Region.wanted o (yielded ops a.tmps)=ό then Oper.wp P o a w K Q else E:=by
 have Y:Region.wanted o (yielded ops a.tmps)=ό:=by simp[Region.wanted,N]
 rw[ϓ Y];unfold Oper.wp;simp[execOp,O,resolve,invoke,builtin,J,aa,U,Result.andThen];exact I
end
def gE (h:Hd):(hd1 h).length=3:=rfl
structure Vh (L:List Hd) (h:Hd) (v:Value) (base:Nat) (w:World) (vb:Nat):Prop where
 row:zT w base v L
 base:base<=w.heap.size
 len:L.length<=1000
 one:w.heap[vb]? =ϊ (.cells #[.int .i64 h.1,.int .i64 h.2.1,.int .i64 h.2.2] 371 (0,0))
 ne:v.ownBlock≠ϊ vb
def JS (L:List Hd) (i:Nat) (h:Hd) (v:Value) (base:Nat) (w:World) (e:Ending) (w':World):Prop:=
 ∃v',e= .returned v'/\zT w' base v' (L.take i++h::L.drop i)/\jt (λk=>v.ownBlock=ϊ k) w w'/\(v'.ownBlock=v.ownBlock∨v'.ownBlock=ϊ w.heap.size)
def Qw {vb:Nat} (d:w.heap[vb]? =ϊ (.cells #[ι h.1,ι h.2.1,ι h.2.2] 371 (0,0))): ∀j u,(hd1 h)[j]? =ϊ u->w.cell? ((⟨vb,0,ϋ⟩:Addr).add j)=ϊ u:=by
 intro j u G;rw[Addr.add_lit,G5,cell_of_row w vb j _ _ (0,0) d]
 simpa [hd1] using G
def YF (h:Hd): ∀u∈hd1 h,u.oneCell'=ό:=by
 intro u d;simp[hd1] at d;rcases d with rfl | rfl | rfl<;>rfl
def Wj (L:List Hd) (h:Hd) (v:Value) (base:Nat) (w:World) (vb:Nat) (ok:Vh L h v base w vb):
  Calls prog 287 #[v,ι L.length,δ (ϊ ⟨vb,0,ϋ⟩) 1 1] w (JS L L.length h v base w):=by
 obtain⟨row,aj,aw,H,ac⟩:=ok;obtain⟨aq,G,O,U,Y⟩:=info_parts (P:=prog) (e:=371) (z:= θ #[ι 0,ι 0,ι 0]) (size:=3) (bytes:=24) ξ;obtain⟨v',w',N,J,d,_,I⟩: ∃v' w',(∀ad,(Builtin.append_ #[187,187] ad #[v,δ (ϊ ⟨vb,0,ϋ⟩) 1 1]).run prog w= .ok v' w')/\w'.ownsRow base 371 3 v' (L.length+1) (hdC L++hd1 h)/\w.grownBy w' v.ownBlock/\True/\(v'.ownBlock=v.ownBlock∨v'.ownBlock=ϊ w.heap.size):=by
  obtain⟨v',w',af,ag,ah,_,ai⟩:=run_append_own_at (P:=prog) (w:=w) base 187 0 371 aq (θ #[ι 0,ι 0,ι 0]) 3 24 underlying187 G O U Y rfl ζ v L.length (hdC L) row ⟨vb,0,ϋ⟩ 1 1 (hd1 h) rfl (Qw H) (YF h) (by unfold maxLen;omega) τ aj;exact⟨v',w',λad=>af,ag,ah,trivial,ai⟩
 have aa:Hid (JS L L.length h v base w (.returned v') w'):=κ ⟨v',rfl,by
  unfold zT;rw[Ϩ,List.drop_length,uT,ώ]
  exact J,⟨d.os,d.tape,d.output,d.size,λk am ao=>d.block k am (λe=>ao e.symm)⟩,I⟩
 have ab:=κ N;rcases row with ⟨_,⟨rfl,ae⟩ | ⟨g,cap,cur,rfl,ar,al,an,au,ak,ap⟩⟩
 ·rw[ae] at *;clear N J d I H G O U Y ac
  go_enter func287,ntmps287
  go_wp2_with (at_builtin;refine Lib.wpList_append_run _ rfl _ _ _ _ rfl _ _ rfl rfl _ _ (ab.o _) ?_)
  go_ret;exact aa.o
 ·have av:L.length<=cap:=an;clear N J d I H G O U Y ac al ak ap
  go_enter func287,ntmps287
  go_wp2_with (at_builtin;refine Lib.wpList_append_run _ rfl _ _ _ _ rfl _ _ rfl rfl _ _ (ab.o _) ?_)
  all_goals (go_ret;exact aa.o)
end
section
open Go.RowKit Go.Lib
def Uq {C:List Value} {i:Nat} (hi:i<L.length) (H:C.take (L.length* 3)=hdC L) (I:L.length* 3<=C.length):
  ∃Z R,C=hdC (L.take i)++(Z++R)/\Z.length=3/\(hdC (L.take i)).length=i* 3:=by
 have d:(hdC (L.take i)).length=i* 3:=by rw[yu,Ϥ];congr 1;omega
 have e:C.take (i* 3)=hdC (L.take i):=by
  have G:C.take (i* 3)=(C.take (L.length* 3)).take (i* 3):=by
   rw[P8];congr 1;have:i* 3<=L.length* 3:=A0 3 τ;omega
  rw[G,H]
  conv=>lhs;rw[<-A7 i L,uT]
  rw[<-d,V4]
 refine⟨(C.drop (i* 3)).take 3,(C.drop (i* 3)).drop 3, ?_, ?_,d⟩
 ·rw[A7,<-e,A7]
 ·have:i* 3+3<=L.length* 3:=by
   have:=A0 3 (show i+1<=L.length from hi);omega
  rw[Ϥ,Ϭ];omega
def VM {i:Nat} {D:List Value} (hi:i<L.length):
  (hdC (L.take i)++(hd1 h++(hdC (L.drop i)++D))).take ((L.length+1)* 3)=hdC (L.take i++h::L.drop i):=by
 have e:hdC (L.take i++h::L.drop i)=hdC (L.take i)++(hd1 h++hdC (L.drop i)):=by rw[uT,gP]
 have d:(hdC (L.take i++h::L.drop i)).length=(L.length+1)* 3:=by
  rw[yu,ώ,Ϙ,Ϥ,Ϭ];congr 1;omega
 rw[<-d];have:hdC (L.take i)++(hd1 h++(hdC (L.drop i)++D))=hdC (L.take i++h::L.drop i)++D:=by rw[e];simp only[ϭ]
 rw[this,V4]
def YU (w:World) (g vb cap o k H G:Nat) (cur I:Array Value) (N:w.heap[g]? =ϊ (.cells cur 371 (0,0))) (J:cur.size≠0) (d:w.heap[vb]? =ϊ (.cells I 371 (0,0))) (O:vb≠g):
  (callFunc 307 #[δ (ϊ ⟨vb,0,ϋ⟩) 1 1,δ (ϊ ⟨g,o,ϋ⟩) H G]).run prog w= .ok (.value (μ ύ)) w:=by
 rw[run_callFunc_extern func307 ξ ξ ξ (e:=Extern.SlicesOverlaps.overlaps #[187,187] #[4]) ξ,
  Lib.run_overlaps_apart w 187 4 371 underlying187 3 (λw=>by kernel_rfl) ⟨vb,0,ϋ⟩ ⟨g,o,ϋ⟩ 1 1 H G O 371 371 I.size cur.size (by simp[World.shape?,d]) (by simp[World.shape?,N]) J (yw d 0) (yw d _)]
 rfl
def Vb (L:List Hd) (i:Nat) (hi:i<L.length) (h:Hd) (base:Nat) (w:World) (vb g cap:Nat) (ok:Vh L h (δ (ϊ ⟨g,0,ϋ⟩) L.length cap) base w vb) (av:L.length+1<=cap):
  Calls prog 287 #[δ (ϊ ⟨g,0,ϋ⟩) L.length cap,ι i,δ (ϊ ⟨vb,0,ϋ⟩) 1 1] w (JS L i h (δ (ϊ ⟨g,0,ϋ⟩) L.length cap) base w):=by
 obtain⟨row,aM,ay,ag,aq⟩:=ok;obtain⟨aG,⟨aC,_⟩ | ⟨g',aK,cur,e,aE,I,ap,ac,an,aj⟩⟩:=row
 ·cases aC
 cases e;have ar:vb≠g:=λe=>aq (by rw[e];rfl)
 obtain⟨ax,ae,aH,ak,aI⟩:=info_parts (P:=prog) (e:=371) (z:= θ #[ι 0,ι 0,ι 0]) (size:=3) (bytes:=24) ξ;have ab:cur.toList.length=cap* 3:=by simpa using an
 obtain⟨Z,R,am,Y,U⟩:=Uq hi aj τ;have H:(hdC (L.drop i)).length=(L.length-i)* 3:=by rw[yu,Ϭ]
 obtain⟨n,af⟩:=ν (L.length);have aD:=λ(o aJ aB:Nat)=>YU w g vb cap o 0 aJ aB cur _ I τ ag ar
 have ah: ∀G d sc,(Builtin.copy_ #[187,187] G #[δ (ϊ ⟨g,(i+1)* 3,ϋ⟩) (n-i) d,δ (ϊ ⟨g,i* 3,ϋ⟩) (n+1-i) sc]).run prog w.drew= .ok (ι ((n-i:Nat):Int)) (w.drew.setRow g (xO cur.toList ((i+1)* 3) (hdC (L.drop i))).toArray):=by
  intro G d sc;have J:Nat.min (n+1-i) (n-i)=n-i:=by simp only[X5];split<;>omega
  have:=yN (P:=prog) w.drew 187 G 371 ax underlying187 ae g ((i+1)* 3) (n-i) d cur I ⟨g,i* 3,ϋ⟩ (n+1-i) sc (hdC (L.drop i)) (by rw[J,ak,H,af]) (by
   intro j u aw;rw[Addr.add_lit];show w.cell? ⟨g,i* 3+j,ϋ⟩=ϊ u;rw[cell_of_row w g _ cur _ (0,0) I];have aO:j<(L.length-i)* 3:=by rw[<-H];exact(ϣ.1 aw).1
   have e:(hdC L)[i* 3+j]? =ϊ u:=by
    conv=>lhs;rw[<-A7 i L,uT]
    rw[ε τ,U,S2];exact aw
   rw[<-aj,C0,ϓ τ] at e
   simpa using e) (by rw[H];omega) (YE _)
  rw[J] at this;rw[this];rfl
 obtain⟨W1,N⟩: ∃W1,W1=w.drew.setRow g (xO cur.toList ((i+1)* 3) (hdC (L.drop i))).toArray:=⟨_,rfl⟩;have ad:W1.heap[g]? =ϊ (.cells (xO cur.toList ((i+1)* 3) (hdC (L.drop i))).toArray 371 (0,0)):=by rw[N];exact jM (w:=w.drew) I _
 have aa:jt (λk=>k=g) w W1:=by rw[N];exact(show jt (λk=>k=g) w w.drew from jt.of_more (ql.drewN w 1)).trans (jt.setRow w.drew g _)
 have O:(xO cur.toList ((i+1)* 3) (hdC (L.drop i))).length=cap* 3:=by rw[ut (by rw[H,ab];omega),ab]
 have au:=aa.blk ag ar;have ai: ∀G d,(Builtin.copy_ #[187,187] G #[δ (ϊ ⟨g,i* 3,ϋ⟩) (n+1-i) d,δ (ϊ ⟨vb,0,ϋ⟩) 1 1]).run prog W1= .ok (ι 1) (W1.setRow g (xO (xO cur.toList ((i+1)* 3) (hdC (L.drop i))) (i* 3) (hd1 h)).toArray):=by
  intro G d;have J:Nat.min 1 (n+1-i)=1:=by simp only[X5];split<;>omega
  have:=yN (P:=prog) W1 187 G 371 ax underlying187 ae g (i* 3) (n+1-i) d _ ad ⟨vb,0,ϋ⟩ 1 1 (hd1 h) (by rw[J,ak];rfl) (Qw au) (by rw[G7,O,gE];omega) (YF h);rw[J] at this;rw[this];rfl
 have al:Hid (JS L i h (δ (ϊ ⟨g,0,ϋ⟩) L.length cap) base w (.returned (δ (ϊ ⟨g,0,ϋ⟩) (n+1) cap)) (W1.setRow g (xO (xO cur.toList ((i+1)* 3) (hdC (L.drop i))) (i* 3) (hd1 h)).toArray)):=κ (by
  have ao:(L.take i++h::L.drop i).length=n+1:=by rw[ώ,Ϙ,Ϥ,Ϭ];omega
  refine⟨_,rfl,⟨by rw[yu],ϕ ⟨g,cap,_,by rw[ao],aE,jM ad _,τ,ac, ?_, ?_⟩⟩,(aa.trans (jt.setRow W1 g _)).mono λk aF=>by subst aF;rfl,ϑ rfl⟩
  ·rw[G7,ut (by rw[O,gE];omega),O]
  ·have:=Et (A:=hdC (L.take i)) (Z:=Z) (D:=R) (X:=hdC (L.drop i)) (V:=hd1 h) (by rw[Y];rfl);rw[Y,U,<-am,show i* 3+3=(i+1)* 3 by omega] at this;rw[ao,<-af];simp only[this]
   exact VM hi)
 rw[<-N] at ah;generalize W1.setRow g (xO (xO cur.toList ((i+1)* 3) (hdC (L.drop i))) (i* 3) (hd1 h)).toArray=W2 at *;rw[af] at av ay ap al ⊢;have az:=κ ah;have aA:=κ ai;have mixed:prog.follows Departure.mixedOrders=ό:=by kernel_rfl
 have aQ:IntKind.i64.wrap ((i:Int)+1)=(i:Int)+1:=by rw[IntKind.wrap_i64];omega
 have aL:(0:Int)<=(i:Int)+1:=by omega
 have aP:((i:Int)+1).toNat=i+1:=by omega
 have aR:(i:Int)<=(n:Int):=by omega
 have aS: ¬(cap:Int)<(n:Int)+1:=by omega
 have aT:(n:Int)<=1000:=by omega
 have aU:(i:Int)+1<=(n:Int)+1:=by omega
 have aV: ¬cap=i:=by omega
 have aW: ¬cap=i+1:=by omega
 have aX:(i:Int)<=(n:Int)+1:=by omega
 have aN:(cap:Int)<=9223372036854775807:=by unfold maxLen at ac;omega
 clear ah ai ab H ad aa O au ag I an aj aG ae aH ak aI am Y U N aq av ap ay ac
 go_enter func287,ntmps287
 go_wp2_with (simp only[aD])
 go_region_law_o (refine uH rfl (.tmp 73) (.tmp 76) 187 187 rfl _ _ (by simp[Act.eval,Act.put]) (by simp[Act.eval,Act.put]) (az.o _ (cap-(i+1)) (cap-i)) ?_)
 have ai:=aA.o;go_wp2;go_ret;exact al.o
end
section
open Go.RowKit Go.Lib
def Rw (L:List Hd) (i:Nat) (hi:i<L.length) (h:Hd) (base:Nat) (w:World) (vb g cap:Nat) (ok:Vh L h (δ (ϊ ⟨g,0,ϋ⟩) L.length cap) base w vb) (bk:cap<L.length+1):
  Calls prog 287 #[δ (ϊ ⟨g,0,ϋ⟩) L.length cap,ι i,δ (ϊ ⟨vb,0,ϋ⟩) 1 1] w (JS L i h (δ (ϊ ⟨g,0,ϋ⟩) L.length cap) base w):=by
 obtain⟨row,bj,bd,aL,bb⟩:=ok;obtain⟨bc,⟨aT,_⟩ | ⟨g',be,cur,e,bh,av,ba,aV,aW,aO⟩⟩:=row
 ·cases aT
 cases e;obtain⟨ak,ah,aP,ab,aD⟩:=info_parts (P:=prog) (e:=371) (z:= θ #[ι 0,ι 0,ι 0]) (size:=3) (bytes:=24) ξ;obtain⟨n,aB⟩:=ν (L.length);have Y:(hdC (L.take i)).length=i* 3:=by rw[yu,Ϥ];congr 1;omega
 have ag:(hdC (L.drop i)).length=(n-i)* 3:=by rw[yu,Ϭ,aB]
 have au: ∀j u,(hdC L)[j]? =ϊ u->w.cell? ⟨g,j,ϋ⟩=ϊ u:=by
  intro j u J;rw[cell_of_row w g _ cur _ (0,0) av];have aX:j<L.length* 3:=by rw[<-yu];exact(ϣ.1 J).1
  rw[<-aO,C0,ϓ aX] at J
  simpa using J
 have holds: ∀j u,(hdC (L.take i))[j]? =ϊ u->w.cell? ((⟨g,0,ϋ⟩:Addr).add j)=ϊ u:=by
  intro j u J;rw[Addr.add_lit,G5];refine au j u ?_
  conv=>lhs;rw[<-A7 i L,uT]
  rw[Ψ (ϣ.1 J).1];exact J
 have aN: ∀j u,(hdC (L.drop i))[j]? =ϊ u->w.cell? ((⟨g,i* 3,ϋ⟩:Addr).add j)=ϊ u:=by
  intro j u J;rw[Addr.add_lit];refine au _ u ?_
  conv=>lhs;rw[<-A7 i L,uT]
  rw[ε τ,Y,S2];exact J
 have aK:(Builtin.firstCells ak.size i (δ (ϊ ⟨g,0,ϋ⟩) i cap)).run prog w.drew= .ok (hdC (L.take i)).toArray w.drew:=by
  rw[ab];exact run_firstCells_some (w:=w.drew) 3 i ⟨g,0,ϋ⟩ i cap (hdC (L.take i)) Y holds
 have ay:i+(n+1-i)=n+1:=by omega
 have aI:(n:Int)+1-(i:Int)=((n+1-i:Nat):Int):=by omega
 obtain⟨d,ac⟩: ∃d,d=grownCap w (n+1) cap 371:=⟨_,rfl⟩;obtain⟨H,aq⟩: ∃H:Array Value,H=(hdC (L.take i)).toArray++Builtin.zeroCells (θ #[ι 0,ι 0,ι 0]).cells (n+1-i)++Builtin.zeroCells (θ #[ι 0,ι 0,ι 0]).cells (d-(n+1)):=⟨_,rfl⟩;have aC: ∀I,(Builtin.append_ #[187,3] I #[δ (ϊ ⟨g,0,ϋ⟩) i cap,ι ((n:Int)+1-(i:Int))]).run prog w= .ok (δ (ϊ ⟨w.heap.size,0,ϋ⟩) (n+1) d) (w.drew.alloc (.cells H 371)):=λI=>by
  have h:=Lib.run_append_grow_zeros (P:=prog) w 187 3 I 371 ak _ .i64 .i64 underlying187 underlying3 ah aP (ϊ ⟨g,0,ϋ⟩) i cap (hdC (L.take i)) aK (n+1-i) τ (by rw[ab];decide) τ τ (by rw[aD];omega) (by rw[aD,ay];exact growslice_fits τ τ);rw[ay,<-ac,<-aq] at h;rw[aI];exact h
 have bg:n+1<=d:=by rw[ac];exact grownCap_ge w _ _ _
 have am:d<=maxLen:=by rw[ac];exact grownCap_le_maxLen w (n+1) cap 371 (by unfold maxLen;omega)
 obtain⟨U,ar⟩:=ν ((Builtin.zeroCells (θ #[ι 0,ι 0,ι 0]).cells (n+1-i)).toList);have aG:U.length=(n+1-i)* 3:=by rw[<-ar,N0,size_zeroCells];rfl
 obtain⟨O,ao⟩:=ν ((Builtin.zeroCells (θ #[ι 0,ι 0,ι 0]).cells (d-(n+1))).toList);have aF:O.length=(d-(n+1))* 3:=by rw[<-ao,N0,size_zeroCells];rfl
 have ap:H.toList=hdC (L.take i)++(U++O):=by
  rw[aq,X0,X0,ar,ao,ϭ]
 obtain⟨Z,D,aH,aU⟩: ∃Z D,U++O=Z++D/\Z.length=3:=⟨(U++O).take 3,(U++O).drop 3,(A7 3 _).symm,by rw[Ϥ,ώ];omega⟩;have ad:H.toList.length=d* 3:=by rw[ap,ώ,ώ,Y,aG,aF];omega
 obtain⟨G,an⟩:=ν (w.heap.size);obtain⟨W1,ae⟩: ∃W1,W1=w.drew.alloc (.cells H 371):=⟨_,rfl⟩;have aw:W1.heap[G]? =ϊ (.cells H 371 (0,0)):=by rw[ae];exact qC (w:=w.drew) an.symm
 have az:ql w W1:=by rw[ae];exact(ql.drewN w 1).al _
 have aj: ∀I N,(Builtin.copy_ #[187,187] I #[δ (ϊ ⟨G,i* 3,ϋ⟩) (n+1-i) N,δ (ϊ ⟨vb,0,ϋ⟩) 1 1]).run prog W1= .ok (ι 1) (W1.setRow G (xO H.toList (i* 3) (hd1 h)).toArray):=by
  intro I N;have aa:Nat.min 1 (n+1-i)=1:=by simp only[X5];split<;>omega
  have:=yN (P:=prog) W1 187 I 371 ak underlying187 ah G (i* 3) (n+1-i) N H aw ⟨vb,0,ϋ⟩ 1 1 (hd1 h) (by rw[aa,ab];rfl) (Qw (qq az aL)) (by rw[gE,<-N0,ad];omega) (YF h);rw[aa] at this;rw[this];rfl
 obtain⟨W2,af⟩: ∃W2,W2=W1.setRow G (xO H.toList (i* 3) (hd1 h)).toArray:=⟨_,rfl⟩;have ax:W2.heap[G]? =ϊ (.cells (xO H.toList (i* 3) (hd1 h)).toArray 371 (0,0)):=by rw[af];exact jM aw _
 have aA:ql w W2:=by rw[af];exact(jt.setRow W1 G _).to_more az (λk aY=>by omega)
 have ai:(xO H.toList (i* 3) (hd1 h)).length=d* 3:=by rw[ut (by rw[gE,ad];omega),ad]
 have aM: ∀I N sc,(Builtin.copy_ #[187,187] I #[δ (ϊ ⟨G,(i+1)* 3,ϋ⟩) (n-i) N,δ (ϊ ⟨g,i* 3,ϋ⟩) (n-i) sc]).run prog W2.drew= .ok (ι ((n-i:Nat):Int)) (W2.drew.setRow G (xO (xO H.toList (i* 3) (hd1 h)) ((i+1)* 3) (hdC (L.drop i))).toArray):=by
  intro I N sc;have aa:Nat.min (n-i) (n-i)=n-i:=X2 _
  have:=yN (P:=prog) W2.drew 187 I 371 ak underlying187 ah G ((i+1)* 3) (n-i) N _ ax ⟨g,i* 3,ϋ⟩ (n-i) sc (hdC (L.drop i)) (by rw[aa,ab,ag]) (by
   intro j u J;have:=aN j u J;rw[Addr.add_lit] at this ⊢;show W2.cell? _=_;rw[aA.cells g _ (lt_of_block av)]
   exact this) (by rw[G7,ai,ag];omega) (YE _)
  rw[aa] at this;rw[this];rfl
 have aE:Hid (JS L i h (δ (ϊ ⟨g,0,ϋ⟩) L.length cap) base w (.returned (δ (ϊ ⟨G,0,ϋ⟩) (n+1) d)) (W2.drew.setRow G (xO (xO H.toList (i* 3) (hd1 h)) ((i+1)* 3) (hdC (L.drop i))).toArray)):=κ (by
  have aJ:(L.take i++h::L.drop i).length=n+1:=by rw[ώ,Ϙ,Ϥ,Ϭ];omega
  have aZ:ql w (W2.drew.setRow G (xO (xO H.toList (i* 3) (hd1 h)) ((i+1)* 3) (hdC (L.drop i))).toArray):=(jt.setRow W2.drew G _).to_more (aA.trans (ql.drewN W2 1)) (λk aY=>by omega);refine⟨_,rfl,⟨by rw[yu],ϕ ⟨G,d,_,by rw[aJ],τ,jM (w:=W2.drew) ax _,τ,am, ?_, ?_⟩⟩,jt.of_more aZ,ϕ (by rw[an];rfl)⟩
  ·rw[G7,ut (by rw[ai,ag];omega),ai]
  ·have:=Bh (A:=hdC (L.take i)) (Z:=Z) (D:=D) (X:=hdC (L.drop i)) (V:=hd1 h) (by rw[aU];rfl);rw[gE,Y,<-aH,<-ap,show i* 3+3=(i+1)* 3 by omega] at this;rw[aJ,<-aB];simp only[this]
   exact VM hi)
 rw[an,<-ae] at aC;rw[<-af] at aj;generalize W2.drew.setRow G (xO (xO H.toList (i* 3) (hd1 h)) ((i+1)* 3) (hdC (L.drop i))).toArray=W3 at *;rw[aB] at aE ⊢;have aS:=κ aC;have aQ:=κ aj;have aR:=κ aM;have mixed:prog.follows Departure.mixedOrders=ό:=by kernel_rfl
 have bm:IntKind.i64.wrap ((i:Int)+1)=(i:Int)+1:=by rw[IntKind.wrap_i64];omega
 have bi:(0:Int)<=(i:Int)+1:=by omega
 have bl:((i:Int)+1).toNat=i+1:=by omega
 have bo:(i:Int)<=(n:Int):=by omega
 have bp:(cap:Int)<(n:Int)+1:=by omega
 have bq:(n:Int)<=1000:=by omega
 have br:(i:Int)+1<=(n:Int)+1:=by omega
 have bs: ¬cap=i:=by omega
 have bt: ¬d=i:=by omega
 have bu: ¬d=i+1:=by omega
 have bv:(i:Int)<=(n:Int)+1:=by omega
 have bn:(i:Int)<=(cap:Int):=by omega
 have bf:(d:Int)<=9223372036854775807:=by unfold maxLen at am;omega
 clear aC aj aM ag aw ax az aA ai aL av aW aO bc ah aP ab aD aH Y ae af bb ba bd aV au holds aN aK ac aq ap ad ar ao aG aF aI ay am
 go_enter func287,ntmps287
 go_wp2_with (at_builtin;refine Lib.wpList_append_run _ rfl _ _ _ _ rfl _ _ rfl rfl _ _ (aS.o _) ?_;have aj:=aQ.o)
 go_region_law_o (refine uH rfl (.tmp 50) (.tmp 53) 187 187 rfl _ _ (by simp[Act.eval,Act.put]) (by simp[Act.eval,Act.put]) (aR.o _ (d-(i+1)) (cap-i)) ?_)
 go_wp2;go_ret;exact aE.o
end
section
open Go.RowKit Go.Lib
def Wk (L:List Hd) (i:Nat) (hi:i<=L.length) (h:Hd) (v:Value) (base:Nat) (w:World) (vb:Nat) (d:Vh L h v base w vb):
  Calls prog 287 #[v,ι i,δ (ϊ ⟨vb,0,ϋ⟩) 1 1] w (JS L i h v base w):=by
 by_cases e:i=L.length
 ·subst e;exact Wj L h v base w vb d
 ·rcases d.row.2 with ⟨_,G⟩ | ⟨g,cap,_,rfl,_⟩
  ·omega
  ·by_cases hc:L.length+1<=cap
   ·exact Vb L i τ h base w vb g cap d hc
   ·exact Rw L i τ h base w vb g cap d τ
structure Jb where
 room:Int
 wait:Int
 holds:List Hd
 begun:Bool
 hi:Int
 bits:Int
def yc (b:Jb) (v:Value):Array Value:= #[.int .i64 b.room,.int .i64 b.wait,v,.bool b.begun,.int .i64 b.hi,.int .u64 b.bits]
structure xZ (w:World) (R:Nat) (v:Value) (b:Jb):Prop where
 blk:w.heap[R]? =ϊ (.cells (yc b v) 191 (0,0))
 row:zT w (R+1) v b.holds
def xZ.on {b:Jb} (h:xZ w R v b) (m:ql w w'):xZ w' R v b:=⟨qq m h.blk,h.row.more m⟩
def xZ.cells {b:Jb} (h:xZ w R v b): ∀x:qt w,x.w'.cell? ⟨R,0,ϋ⟩=ϊ (ι b.room)/\x.w'.cell? ⟨R,1,ϋ⟩=ϊ (ι b.wait)/\x.w'.cell? ⟨R,2,ϋ⟩=ϊ v/\x.w'.cell? ⟨R,3,ϋ⟩=ϊ (μ b.begun)/\x.w'.cell? ⟨R,4,ϋ⟩=ϊ (ι b.hi)/\x.w'.cell? ⟨R,5,ϋ⟩=ϊ (ψ b.bits):=λx=>
 have k:=qq x.h h.blk
 ⟨qa k 0 rfl,qa k 1 rfl,qa k 2 rfl,qa k 3 rfl,qa k 4 rfl,qa k 5 rfl⟩
abbrev xz (n:Int):Prop:=0<=n/\n<=1152921504606846976
structure JOK (b:Jb):Prop where
 room:1<=b.room/\b.room<=8
 wait:0<=b.wait/\b.wait<=1000
 fits:(b.holds.length:Int)<=b.room
 nums: ∀h∈b.holds,xz h.1/\xz h.2.1
 rise:b.holds.Pairwise λa c=>a.1<c.1
 hi:xz b.hi
 bits:U64 b.bits
 over:b.begun=ό-> ∀h∈b.holds,b.hi<h.1
def Dp (n:Int) (B:Nat) (x:Hd) (w:World) (d:w.heap[B]? =ϊ (.cells #[ι n] 2 (0,0))):
  Calls prog 283 #[θ #[ι x.1,ι x.2.1,ι x.2.2],γ B] w λe w'=>e= .returned (μ (x.1==n))/\ql w w':=by
 obtain⟨G,H,I⟩:=x;have J:(w.alloc (.cells #[ι G,ι H,ι I] 371)).cell? ⟨B,0,ϋ⟩=ϊ (ι n):=qa (qs d _) 0 rfl;clear d
 go_enter func283,ntmps283
 go_wp2;go_ret;exact⟨rfl,ql.alloc _ _⟩
def Wp (n:Int) (B:Nat) (x:Hd) (w:World) (d:w.heap[B]? =ϊ (.cells #[ι n] 2 (0,0))):
  Calls prog 284 #[θ #[ι x.1,ι x.2.1,ι x.2.2],γ B] w λe w'=>e= .returned (μ (decide (n<x.1)))/\ql w w':=by
 obtain⟨G,H,I⟩:=x;have J:(w.alloc (.cells #[ι G,ι H,ι I] 371)).cell? ⟨B,0,ϋ⟩=ϊ (ι n):=qa (qs d _) 0 rfl;clear d
 go_enter func284,ntmps284
 go_wp2;go_ret;exact⟨rfl,ql.alloc _ _⟩
def ux (b:Jb) (R:Nat) (v:Value) (w:World) (h:xZ w R v b) (d:xz b.hi):
  Calls prog 269 #[γ R] w λe w'=>e= .returned (.tuple #[ι (if b.begun then b.hi+1 else 0),b.begun])/\w=w':=by
 obtain⟨G,c1,c2,c3,c4,c5⟩:=h.cells ⟨w,ql.refl _⟩;obtain⟨H,I⟩:=d;clear h;cases hb:b.begun with
 | true=>
  rw[hb] at c3
  go_enter func269,ntmps269
  go_wp2
  go_ret2
  exact⟨rfl,rfl⟩
 | false=>
  rw[hb] at c3
  go_enter func269,ntmps269
  go_wp2
  go_ret2
  exact⟨rfl,rfl⟩
end
section
open Go.RowKit Go.Lib
def zX (b:Jb) (now:Int) (h:Hd):Bool:=decide (b.wait<=now-h.2.1)
def xa (b:Jb) (now:Int):Bool:=match b.holds with
 | []=>ύ
 | h::_=> !b.begun||h.1==b.hi+1||decide (b.room<=b.holds.length)||b.holds.any (zX b now)
def U7 (b:Jb) (R:Nat) (v:Value) (H:Int) (af:xz H) (U O:Nat) (x:Hd) (ah:xz x.2.1) (w:World) (h:xZ w R v b)
  (aa:w.heap[U]? =ϊ (.cells #[ι H] 2 (0,0))) (Y:w.heap[O]? =ϊ (.cells #[γ R] 102 (0,0))):
  Calls prog 268 #[θ #[ι x.1,ι x.2.1,ι x.2.2],γ U,γ O] w λe w'=>e= .returned (μ (zX b H x))/\ql w w':=by
 obtain⟨I,J,N⟩:=x;obtain⟨ad,ae⟩:=ah;obtain⟨n0,n1⟩:=af;simp only at ad ae;have d:=ql.alloc w (.cells #[ι I,ι J,ι N] 371);obtain⟨W,G⟩: ∃W,W=w.alloc (.cells #[ι I,ι J,ι N] 371):=⟨_,rfl⟩;have ab:W.heap[w.heap.size]? =ϊ (.cells #[ι I,ι J,ι N] 371 (0,0)):=by rw[G];exact qj w _
 rw[<-G] at d;have c1: ∀x:qt W,x.w'.cell? ⟨R,1,ϋ⟩=ϊ (ι b.wait):=λx=>((h.on d).cells x).2.1
 have c3:=λ(x:qt W)=>β0 (qq (d.trans x.h) aa)
 have c2:=λ(x:qt W)=>β0 (qq (d.trans x.h) Y)
 have aj:=λ(x:qt W)=>β1 (qq x.h ab)
 have ac:=κ d;clear h aa Y ab d
 go_enter func268,ntmps268
 go_wp2_with fail
 rw[<-G];clear G;generalize w.heap.size=BX at *;refine qD W (ql.refl _) ξ ξ ?_
 repeat (go_big_quiet_step (fail))
 refine wpQuiet_nil ?_;intro _ ag;obtain⟨ai,rfl⟩:=ag;go_wp2;go_ret;exact⟨rfl,ac.o.trans ai.h⟩
def Z7 (b:Jb) (ok:JOK b) (R:Nat) (v:Value) (d:Int) (aD:xz d) (w:World) (h:xZ w R v b):
  Calls prog 221 #[γ R,ι d] w λe w'=>e= .returned (μ (xa b d))/\ql w w':=by
 obtain⟨W,G⟩: ∃W,W=(w.alloc (.cells #[γ R] 102)).alloc (.cells #[ι d] 2):=⟨_,rfl⟩;have ak:ql w W:=by rw[G];exact(ql.alloc w _).al _
 have ah:W.heap[w.heap.size]? =ϊ (.cells #[γ R] 102 (0,0)):=by rw[G];exact qs (qj w _) _
 have ao:W.heap[w.heap.size+1]? =ϊ (.cells #[ι d] 2 (0,0)):=by rw[G];exact qC η
 have I:=κ (h.on ak);have aH: ∀x:qt W,x.w'.cell? ⟨R,0,ϋ⟩=ϊ (ι b.room):=λx=>(I.o.cells x).1
 have c2: ∀x:qt W,x.w'.cell? ⟨R,2,ϋ⟩=ϊ v:=λx=>(I.o.cells x).2.2.1
 have ap:W.cell? ⟨R,2,ϋ⟩=ϊ v:=(I.o.cells ⟨W,ql.refl _⟩).2.2.1;have ay:=λ(x:qt W)=>β0 (qq x.h ah)
 have aJ:w.heap.size≠R:=λe=>by have:=lt_of_block h.blk;omega
 have ad:=κ ak;have O:=κ I.o.row;have am:Hid (ZA 268 #[γ (w.heap.size+1),γ w.heap.size] (zX b d) b.holds W):=κ λW' x aq m=>
  U7 b R v d aD _ _ x (ok.nums x aq).2 W' (I.o.on m) (qq m ao) (qq m ah)
 obtain⟨av,cap,rfl,aB⟩:=I.o.row.shape;obtain⟨aN,aO⟩:=ok.room;have az:=ok.fits;obtain⟨ai,aj⟩:=ok.hi;clear h;have H:Hid (xZ ((w.alloc (.cells #[γ R] 102)).alloc (.cells #[ι d] 2)) R (δ av b.holds.length cap) b):=κ (G▸I.o);have ab:((w.alloc (.cells #[γ R] 102)).alloc (.cells #[ι d] 2)).cell? ⟨R,2,ϋ⟩=ϊ (δ av b.holds.length cap):=G▸ap;cases hbh:b.holds with
 | nil=>
  have ae:xa b d=ύ:=by unfold xa;rw[hbh]
  have J:=κ ae;have aw:Hid (ql w ((w.alloc (.cells #[γ R] 102)).alloc (.cells #[ι d] 2))):=κ (G▸ad.o);rw[hbh,Ϣ] at ab;clear ae am O ah ao ak c2 ap ay G
  go_enter func221,ntmps221
  go_wp2;go_ret;exact⟨by rw[J.o];rfl,aw.o⟩
 | cons k T=>
  have aC:b.holds.length=T.length+1:=by rw[hbh];rfl
  obtain⟨g,aI,e,aA,aM,au⟩:=O.o.cell 0 τ;cases e;have aK: ∀x:qt W,x.w'.cell? ⟨g,0,ϋ⟩=ϊ (ι k.1):=λx=>by
   have:=(au _ x.h).1;rw[N4,hbh] at this;exact this
  have ae:xa b d=(!b.begun||k.1==b.hi+1||decide (b.room<=b.holds.length)||b.holds.any (zX b d)):=by unfold xa;rw[hbh]
  have J:=κ ae;have aE: ¬(b.holds.length:Int)=0:=by omega
  have aF:(0:Int)<(b.holds.length:Int):=by omega
  clear ae au ah ao ak ap hbh aC aA;obtain⟨an,ar⟩:=ν (b.holds.length);rw[ar] at c2 ab J aE aF aB az H O;clear ar;generalize k.1=K1 at *;have ag:Hid (∀W',ql W W'->ZA 268 #[γ (w.heap.size+1),γ w.heap.size] (zX b d) b.holds W'):=κ λW' m ax x aq aG=>am.o ax x aq (m.trans aG)
  have af: ∀args w,(callFunc 268 args).run prog w= .ok (.enter 268 args) w:=λargs w=>by kernel_rfl
  clear am;cases hbg:b.begun with
  | false=>
   have ac:=κ hbg;have N:Hid (xa b d=ό):=κ (by rw[J.o,hbg];rfl);clear hbg J
   go_enter func221,ntmps221
   go_wp2_with (go_at_call 269;(go_call ux b R _ _ H.o ⟨ai,aj⟩ as e w1 ⟨rfl,rfl⟩;rw[ac.o]))
   rw[<-G];clear G H ab;generalize w.heap.size=B2 at *;refine qD W (ql.refl _) ξ ξ ?_
   repeat (go_big_quiet_step ((go_at_call 270;with_reducible exact j6 (xt _ _ (zX b d) af b.holds _ (R+1) _ (O.o.more (qt.h _)) (ag.o _ (qt.h _))))))
   refine wpQuiet_nil ?_;intro _ U;obtain⟨Y,rfl⟩:=U;go_wp2;go_ret;exact⟨by rw[N.o];rfl,ad.o.trans Y.h⟩
  | true=>
   have ac:=κ hbg;have aa:Hid (xa b d=(K1==b.hi+1||decide (b.room<=(an:Int))||b.holds.any (zX b d))):=κ (by rw[J.o,hbg];rfl);clear hbg J;cases hk:(K1==b.hi+1) with
   | true=>
    have N:Hid (xa b d=ό):=κ (by rw[aa.o,hk];rfl);clear aa
    go_enter func221,ntmps221
    go_wp2_with (go_at_call 269;(go_call ux b R _ _ H.o ⟨ai,aj⟩ as e w1 ⟨rfl,rfl⟩;rw[ac.o]))
    rw[<-G];clear G H ab;generalize w.heap.size=B2 at *;refine qD W (ql.refl _) ξ ξ ?_
    repeat (go_big_quiet_step ((go_at_call 270;with_reducible exact j6 (xt _ _ (zX b d) af b.holds _ (R+1) _ (O.o.more (qt.h _)) (ag.o _ (qt.h _))))))
    refine wpQuiet_nil ?_;intro _ U;obtain⟨Y,rfl⟩:=U;go_wp2;go_ret;exact⟨by rw[N.o];rfl,ad.o.trans Y.h⟩
   | false=>
    by_cases hf:b.room<=(an:Int)
    ·have N:Hid (xa b d=ό):=κ (by rw[aa.o,hk,ϻ hf];rfl);clear aa
     go_enter func221,ntmps221
     go_wp2_with (go_at_call 269;(go_call ux b R _ _ H.o ⟨ai,aj⟩ as e w1 ⟨rfl,rfl⟩;rw[ac.o]))
     rw[<-G];clear G H ab;generalize w.heap.size=B2 at *;refine qD W (ql.refl _) ξ ξ ?_
     repeat (go_big_quiet_step ((go_at_call 270;with_reducible exact j6 (xt _ _ (zX b d) af b.holds _ (R+1) _ (O.o.more (qt.h _)) (ag.o _ (qt.h _))))))
     refine wpQuiet_nil ?_;intro _ U;obtain⟨Y,rfl⟩:=U;go_wp2;go_ret;exact⟨by rw[N.o];rfl,ad.o.trans Y.h⟩
    ·have N:Hid (xa b d=b.holds.any (zX b d)):=κ (by rw[aa.o,hk,ϯ hf];rfl);have aL:decide (b.room<=(an:Int))=ύ:=ϯ hf;clear aa hf
     go_enter func221,ntmps221
     go_wp2_with (go_at_call 269;(go_call ux b R _ _ H.o ⟨ai,aj⟩ as e w1 ⟨rfl,rfl⟩;rw[ac.o]))
     rw[<-G];clear G H ab;generalize w.heap.size=B2 at *;refine qD W (ql.refl _) ξ ξ ?_
     repeat (go_big_quiet_step ((go_at_call 270;with_reducible exact j6 (xt _ _ (zX b d) af b.holds _ (R+1) _ (O.o.more (qt.h _)) (ag.o _ (qt.h _))))))
     refine wpQuiet_nil ?_;intro _ U;obtain⟨Y,rfl⟩:=U;go_wp2;go_ret;exact⟨by rw[N.o];rfl,ad.o.trans Y.h⟩
end
section
open Go.RowKit Go.Lib
def wK (b:Jb) (n:Int):Int×Int:=if b.begun then zt b.hi b.bits n else (n,1)
def xT (b:Jb):Jb:=match b.holds with
 | []=>b
 | h::T=>{b with holds:=T,begun:=ό,hi:=(wK b h.1).1,bits:=(wK b h.1).2}
def uY {n:Int} (h:xz n):Mid n:=by obtain⟨d,G⟩:=h;unfold Mid;omega
structure NQ (w w':World) (R:Nat) (v v':Value) (b':Jb):Prop where
 buf:xZ w' R v' b'
 away:jt (λk=>k=R∨v.ownBlock=ϊ k) w w'
 own:v'.ownBlock=v.ownBlock∨ ∃g,v'.ownBlock=ϊ g/\w.heap.size<=g
def zT.away (h:zT w base v L) (a:jt S w w') (H: ∀k,v.ownBlock=ϊ k-> ¬S k):zT w' base v L:=by
 obtain⟨d,G⟩:=h;refine⟨d, ?_⟩;rcases G with h | ⟨g,cap,cur,e1,hb,hg,rest⟩
 ·exact ϑ h
 ·exact ϕ ⟨g,cap,cur,e1,hb,a.blk hg (H g (by rw[e1];rfl)),rest⟩
def jt.old {a b:World} {S':Nat->Prop} (m:ql w a) (h:jt S a b) (H: ∀k,S k->S' k∨w.heap.size<=k):jt S' w b:=
 ⟨h.os.trans m.os,h.tape.trans m.tape,h.output.trans m.output,ϙ m.size h.size,λk d G=>by
  rw[h.block k (ϗ d m.size) (λx=>(H k x).elim G (λy=>by omega))]
  exact m.block k d⟩
def zT.own_ge (h:zT w base v L) {k:Nat} (d:v.ownBlock=ϊ k):base<=k/\k<w.heap.size:=by
 rcases h.2 with ⟨rfl,_⟩ | ⟨g,cap,cur,rfl,G,H,_⟩
 ·cases d
 ·obtain rfl:g=k:=by injection d
  exact⟨G,lt_of_block H⟩
def AK (w:World) (B:Nat) (v0 d G:Value):jt (λk=>k=B) w (((w.setCell ⟨B,0,ϋ⟩ v0).setCell ⟨B,1,ϋ⟩ d).setCell ⟨B,2,ϋ⟩ G):=
 (((jt.refl (λk=>k=B) w).set (p:=⟨B,0,ϋ⟩) rfl v0).set (p:=⟨B,1,ϋ⟩) rfl d).set (p:=⟨B,2,ϋ⟩) rfl G
def ZQ {w5:World} {G g I cap J:Nat} {U:Option Addr} {b:Jb} {H N O ac aa:Int} {X:Value} (ai:b.holds=(H,N,O)::T) (aq:wK b H=(ac,aa))
  (ak:w5.heap[R]? =ϊ (.cells ((yc b X).setIfInBounds 2 (δ U I J)) 191 (0,0))) (al:w5.heap[G]? =ϊ (.cells #[ι 0,ι 0,ι 0] 371 (0,0)))
  (am:zT w5 (R+1) (δ U I J) T) (ad:(δ U I J).ownBlock=ϊ g) (aj:jt (λk=>k=R∨k=g) w w5) (ar:w.heap.size<=G) (au:R<w.heap.size) (av:g≠R) (aw:g<w.heap.size)
  {WF:World} (e:((((((w5.setCell ⟨R,4,ϋ⟩ (ι ac)).setCell ⟨R,5,ϋ⟩ (ψ aa)).setCell ⟨R,3,ϋ⟩ (μ ό)).setCell ⟨G,0,ϋ⟩ (ι H)).setCell ⟨G,1,ϋ⟩ (ι N)).setCell ⟨G,2,ϋ⟩ (ι O))=WF):
  WF.cell? ⟨G,0,ϋ⟩=ϊ (ι H)/\WF.cell? ⟨G,1,ϋ⟩=ϊ (ι N)/\WF.cell? ⟨G,2,ϋ⟩=ϊ (ι O)/\NQ w WF R (δ (ϊ ⟨g,0,ϋ⟩) (I+1) cap) (δ U I J) (xT b):=by
 obtain⟨w6,af⟩:=ν (((w5.setCell ⟨R,4,ϋ⟩ (ι ac)).setCell ⟨R,5,ϋ⟩ (ψ aa)).setCell ⟨R,3,ϋ⟩ (μ ό));rw[af] at e;have ag:=qp (qp (qp ak 4 (ι ac)) 5 (ψ aa)) 3 (μ ό);rw[af] at ag;have ae:jt (λk=>k=R) w5 w6:=by
  rw[<-af];exact(((jt.refl (λk=>k=R) w5).set (p:=⟨R,4,ϋ⟩) rfl _).set (p:=⟨R,5,ϋ⟩) rfl _).set (p:=⟨R,3,ϋ⟩) rfl _
 have ah:R≠G:=by omega
 have ap:=ae.blk al (λx=>ah x.symm);have Y:=AK w6 G (ι H) (ι N) (ι O);have ab:=qp (qp (qp ap 0 (ι H)) 1 (ι N)) 2 (ι O);rw[e] at Y ab;have ao:=Y.blk ag ah;refine⟨qa ab 0 rfl,qa ab 1 rfl,qa ab 2 rfl,⟨qB ao ?_, ?_⟩, ?_,ϑ (by rw[ad];rfl)⟩
 ·simp only[xT,ai,aq];rfl
 ·have:zT WF (R+1) (δ U I J) T:=(am.away ae (λk d x=>by rw[ad] at d;injection d with d;omega)).away Y (λk d x=>by rw[ad] at d;injection d with d;omega);simp only[xT,ai];exact this
 ·have an:jt (λk=>k=R∨k=g∨k=G) w WF:=(aj.mono λk d=>d.elim ϑ (λx=>ϕ (ϑ x))).trans ((ae.mono λk d=>ϑ d).trans (Y.mono λk d=>ϕ (ϕ d)));refine jt.old (ql.refl w) an λk d=> ?_
  rcases d with d | d | d
  ·exact ϑ (ϑ d)
  ·exact ϑ (ϕ (by rw[d];rfl))
  ·exact ϕ τ
def Z9 (b:Jb) (h:Hd) (T:List Hd) (au:b.holds=h::T) (aM:JOK b) (R:Nat) (v:Value) (w:World) (an:xZ w R v b):
  Calls prog 230 #[γ R] w λe w'=>e= .returned (θ #[ι h.1,ι h.2.1,ι h.2.2])/\ ∃v',NQ w w' R v v' (xT b):=by
 obtain⟨I,aa,ab⟩:=h;have bA:=(aM.nums (I,aa,ab) (by rw[au];exact ϟ)).1;have bx:=uY bA;have bz:=uY aM.hi;have bw:b.holds.length=T.length+1:=by rw[au];rfl
 obtain⟨W2,ax⟩: ∃W2,W2=(w.alloc (.cells #[ι 0,ι 0,ι 0] 371)).alloc (.cells #[ι I,ι aa,ι ab] 371):=⟨_,rfl⟩;have ay:ql w W2:=by rw[ax];exact(ql.alloc w _).al _
 have aw:=an.row;rw[au] at aw;obtain⟨g,cap,rfl,bK,bd,bc⟩:=aw.cell 0 η;obtain⟨bs,bt,bu⟩:=bc _ (ql.alloc w (.cells #[ι 0,ι 0,ι 0] 371));rw[N4] at bs bt bu;have bn:=(an.on (ql.alloc w (.cells #[ι 0,ι 0,ι 0] 371))).cells ⟨_,ql.refl _⟩;obtain⟨_,_,aY,_,_,_⟩:=bn;have bo:=(an.on ((ql.alloc w (.cells #[ι 0,ι 0,ι 0] 371)).al (.cells #[ι I,ι aa,ι ab] 371))).cells ⟨_,ql.refl _⟩;obtain⟨_,_,aZ,_,_,_⟩:=bo;have av:=κ (aw.more ay);have aF:=κ (an.on ay);have n0:W2.heap[w.heap.size]? =ϊ (.cells #[ι 0,ι 0,ι 0] 371 (0,0)):=by rw[ax];exact qs (qj w _) _
 have n1:W2.heap[w.heap.size+1]? =ϊ (.cells #[ι I,ι aa,ι ab] 371 (0,0)):=by rw[ax];exact qC η
 rw[Ϙ] at aY aZ av aF ⊢;have aK:g≠R:=by omega
 have bb:=lt_of_block an.blk;have bj:=κ ay;have bk:=κ n0;have bl:=κ n1;obtain⟨d,aL⟩:=ν (T.length);rw[aL] at aY aZ av aF ⊢
 have aV:Hid (∀w',w'=W2->Calls prog 274 #[δ (ϊ ⟨g,0,ϋ⟩) (d+1) cap,ι 0,ι 1] w' λe Y=> ∃J H,e= .returned (δ J d H)/\zT Y (R+1) (δ J d H) T/\
   Y.heap[R]? =ϊ (.cells (yc b (δ (ϊ ⟨g,0,ϋ⟩) (d+1) cap)) 191 (0,0))/\Y.heap[w.heap.size]? =ϊ (.cells #[ι 0,ι 0,ι 0] 371 (0,0))/\Y.heap[w.heap.size+1]? =ϊ (.cells #[ι I,ι aa,ι ab] 371 (0,0))/\
   jt (λk=>k=g) w Y/\(δ J d H).ownBlock=ϊ g):=κ λw' e=>by
  subst e;refine(Vc (I,aa,ab) T _ (R+1) _ av.o).mono ?_;rintro e Y ⟨v3,rfl,ae,a3,ah⟩;obtain⟨J,H,rfl,_⟩:=ae.shape;rw[aL] at ae ah ⊢;have key: ∀k,(δ (ϊ ⟨g,0,ϋ⟩) (d+1) cap).ownBlock=ϊ k->k=g:=λk U=>by injection U with U;exact U.symm
  have bv:w'.heap[R]? =ϊ (.cells (yc b (δ (ϊ ⟨g,0,ϋ⟩) (d+1) cap)) 191 (0,0)):=aF.o.blk;exact⟨J,H,rfl,ae,a3.blk bv (λx=>aK (key _ x).symm),a3.blk bk.o (λx=>by have:=key _ x;omega),a3.blk bl.o (λx=>by have:=key _ x;omega),jt.old bj.o a3 (λk U=>ϑ (key _ U)),ah⟩
 have aX:=κ ax;have aU:=κ au;clear bc av ay n0 n1 au bw aw aL;cases hbg:b.begun with
 | false=>
  have ai:=κ hbg;clear hbg
  go_enter func230,ntmps230
  go_wp2_with (first | (go_at_call 274;(go_call aV.o _ aX.o.symm as e Y ⟨J,H,rfl,ae,N,ap,aj,a3,ah⟩;have aA:=κ N;have aC:=κ ap;have aD:=κ aj;have aH:=κ ae;have az:=κ a3;have ao:=κ ah;unfold yc at N;rw[ai.o] at N;have aQ:=qa N 2 rfl;have aT:=yw N 2;have aR:=qa N 3 rfl;have z3:=yw N 3;have aS:=qa aj 0 rfl;clear N ap aj a3 ah ae)) | (go_at_call 276;(go_call Ya I _ as e w5 ⟨rfl,ag⟩;have G:=qq ag (qp aA.o 2 (δ J d H));have O:=qq ag (qo aC.o ⟨R,2,ϋ⟩ (δ J d H) (by simp;omega));have ad:=qq ag (qo aD.o ⟨R,2,ϋ⟩ (δ J d H) (by simp;omega));have aB:=κ G;have aE:=κ O;have bJ:=κ ad;have ac:=κ ag;unfold yc at G;rw[ai.o] at G;have bG:=qa G 3 rfl;have bH:=qa G 4 rfl;have bI:=qa G 5 rfl;have bB:=yw G 3;have bC:=yw G 4;have bD:=yw G 5;have bE:=qa O 0 rfl;have bF:=qa O 1 rfl;have p2:=qa O 2 rfl;have bp:=yw O 0;have bq:=yw O 1;have br:=yw O 2;have t0:=qa ad 0 rfl;have t1:=qa ad 1 rfl;have t2:=qa ad 2 rfl;clear G O ad ag aQ aT aR z3 aS)))
  have ar:zT w5 (R+1) (δ J d H) T:=(aH.o.away ((jt.refl (λk=>k=R) Y).set (p:=⟨R,2,ϋ⟩) rfl (δ J d H)) (λk U x=>by rw[ao.o] at U;injection U with U;omega)).more ac.o;have aq:jt (λk=>k=R∨k=g) w w5:=((az.o.mono λk U=>ϕ U).trans ((jt.refl (λk=>k=R∨k=g) Y).set (p:=⟨R,2,ϋ⟩) (ϑ rfl) (δ J d H))).more ac.o;obtain⟨WF,ak⟩:=ν (((((((w5.setCell ⟨R,4,ϋ⟩ (ι I)).setCell ⟨R,5,ϋ⟩ (ψ 1)).setCell ⟨R,3,ϋ⟩ (μ ό)).setCell ⟨w.heap.size,0,ϋ⟩ (ι I)).setCell ⟨w.heap.size,1,ϋ⟩ (ι aa)).setCell ⟨w.heap.size,2,ϋ⟩ (ι ab)));obtain⟨aN,aO,aP,st⟩:=ZQ (cap:=cap) aU.o (show wK b I=(I,1) by unfold wK;rw[ai.o];rfl) aB.o aE.o ar ao.o aq (ϔ _) bb aK bd ak;rw[ak];clear ak ar aq
  (refine bodyPost_ret (v:= θ #[ι I,ι aa,ι ab]) ?rr1 rfl ?_;(case rr1=>(simp[results,results230,go_sem,aN,aO,aP])))
  exact⟨rfl,_,st⟩
 | true=>
  have ai:=κ hbg;clear hbg
  go_enter func230,ntmps230
  go_wp2_with (go_at_call 274;(go_call aV.o _ aX.o.symm as e Y ⟨J,H,rfl,ae,N,ap,aj,a3,ah⟩;have aA:=κ N;have aC:=κ ap;have aD:=κ aj;have aH:=κ ae;have az:=κ a3;have ao:=κ ah;unfold yc at N;rw[ai.o] at N;have aQ:=qa N 2 rfl;have aT:=yw N 2;have aR:=qa N 3 rfl;have z3:=yw N 3;have aS:=qa aj 0 rfl;clear N ap aj a3 ah ae))
  generalize am:Y.setCell ⟨R,2,ϋ⟩ (δ J d H)=w4 at *;have aI:w4.heap[R]? =ϊ (.cells ((yc b (δ (ϊ ⟨g,0,ϋ⟩) (d+1) cap)).setIfInBounds 2 (δ J d H)) 191 (0,0)):=by rw[<-am];exact qp aA.o 2 _
  have ba:w4.heap[w.heap.size]? =ϊ (.cells #[ι 0,ι 0,ι 0] 371 (0,0)):=by rw[<-am];exact qo aC.o ⟨R,2,ϋ⟩ (δ J d H) (by simp;omega)
  have aJ:w4.heap[w.heap.size+1]? =ϊ (.cells #[ι I,ι aa,ι ab] 371 (0,0)):=by rw[<-am];exact qo aD.o ⟨R,2,ϋ⟩ (δ J d H) (by simp;omega)
  have be:zT w4 (R+1) (δ J d H) T:=by
   rw[<-am];exact aH.o.away ((jt.refl (λk=>k=R) Y).set (p:=⟨R,2,ϋ⟩) rfl (δ J d H)) (λk U x=>by rw[ao.o] at U;injection U with U;omega)
  have a4:jt (λk=>k=R∨k=g) w w4:=by
   rw[<-am];exact(az.o.mono λk U=>ϕ U).trans ((jt.refl (λk=>k=R∨k=g) Y).set (p:=⟨R,2,ϋ⟩) (ϑ rfl) (δ J d H))
  have bg:=κ aI;have bh:=κ ba;have bi:=κ aJ;have bm:=κ be;have bf:=κ a4;have aG:=λ(x:qt w4)=>qq x.h aI
  have c4:=λx=>β4 (aG x);have c5:=λx=>β5 (aG x);clear aG
  have c1:=λ(x:qt w4)=>β0 (qq x.h aJ)
  clear aI ba aJ be a4 am aQ aT aR z3 aS;refine Qn w4 10 11 [7,8,10] ?_
  refine Qq7 ?_
  (refine Ql ?_;intro K af)
  refine(gS b.hi b.bits I bz bx aM.bits _).mono ?_;rintro e w5 ⟨rfl,ag⟩;have ac:ql w4 w5:=(ql.drewN w4 1).trans ag;refine⟨_,rfl,qk ac,af _ _ ?_⟩;clear af K ag
  (refine Ql ?_;intro K af)
  refine⟨qk ac,af _ _ ?_⟩;clear af K
  refine Qq1 ?_
  have G:=qq ac bg.o;have O:=qq ac bh.o;have ad:=qq ac bi.o;have aB:=κ G;have aE:=κ O;have aW:=κ ac;unfold yc at G;rw[ai.o] at G;have bG:=qa G 3 rfl;have bH:=qa G 4 rfl;have bI:=qa G 5 rfl;have bB:=yw G 3;have bC:=yw G 4;have bD:=yw G 5;have bE:=qa O 0 rfl;have bF:=qa O 1 rfl;have p2:=qa O 2 rfl;have bp:=yw O 0;have bq:=yw O 1;have br:=yw O 2;have t0:=qa ad 0 rfl;have t1:=qa ad 1 rfl;have t2:=qa ad 2 rfl;clear G O ad ac c4 c5 c1
  (refine Qe ?_;intro K af)
  refine af _ _ ?_;clear af K;refine qA ?_;go_wp2;have ar:zT w5 (R+1) (δ J d H) T:=bm.o.more aW.o;have aq:jt (λk=>k=R∨k=g) w w5:=bf.o.more aW.o;obtain⟨WF,ak⟩:=ν (((((((w5.setCell ⟨R,4,ϋ⟩ (ι (zt b.hi b.bits I).1)).setCell ⟨R,5,ϋ⟩ (ψ (zt b.hi b.bits I).2)).setCell ⟨R,3,ϋ⟩ (μ ό)).setCell ⟨w.heap.size,0,ϋ⟩ (ι I)).setCell ⟨w.heap.size,1,ϋ⟩ (ι aa)).setCell ⟨w.heap.size,2,ϋ⟩ (ι ab)));obtain⟨aN,aO,aP,st⟩:=ZQ (cap:=cap) aU.o (show wK b I=((zt b.hi b.bits I).1,(zt b.hi b.bits I).2) by unfold wK;rw[ai.o];rfl) aB.o aE.o ar ao.o aq (ϔ _) bb aK bd ak;rw[ak];clear ak ar aq
  (refine bodyPost_ret (v:= θ #[ι I,ι aa,ι ab]) ?rr2 rfl ?_;(case rr2=>(simp[results,results230,go_sem,aN,aO,aP])))
  exact⟨rfl,_,st⟩
end
section
open Go.RowKit Go.Lib
def atJ (L:List Hd) (n:Int):Nat:=L.findIdx λk=>decide (n<k.1)
def ue (L:List Hd) (h:Hd):List Hd:=L.take (atJ L h.1)++h::L.drop (atJ L h.1)
def JM (b:Jb) (n:Int):Bool:=b.holds.any λk=>k.1==n
def jP (b:Jb) (n now x:Int):Jb×Int:=
 if JM b n||(b.begun&&yi b.hi b.bits n) then (b,10)
 else if b.begun&&decide (n<b.hi+1) then (b,9)
 else if b.room<=b.holds.length then (b,8)
 else ({b with holds:=ue b.holds (n,now,x)},0)
def Ua (L:List Hd) (n:Int):atJ L n<=L.length:=List.findIdx_le_length
def Fx (L:List Hd) (n:Int):(Jk (λk=>decide (n<k.1)) L=(atJ L n:Int)/\atJ L n<L.length)∨(Jk (λk=>decide (n<k.1)) L= -1/\atJ L n=L.length):=by
 unfold Jk;have:=Ua L n;unfold atJ at *;by_cases h:L.findIdx (λk=>decide (n<k.1))<L.length
 ·left;rw[ϓ h];exact⟨rfl,h⟩
 ·right;rw[Ϗ h];exact⟨rfl,τ⟩
def NQ.keep {b:Jb} (m:ql w w') (d:xZ w' R v b):NQ w w' R v v b:=⟨d,jt.of_more m,ϑ rfl⟩
end
section
open Go.RowKit Go.Lib
def Bl {w10 w13:World} {b:Jb} {G:Option Addr} {cap:Nat} (I:xZ w10 R (δ G b.holds.length cap) b) (O:ql w w10) (ab:R<w.heap.size)
  (H:jt (λk=>(δ G b.holds.length cap).ownBlock=ϊ k) w10 w13) (N:zT w13 (R+1) v' (ue b.holds h)) (aa:v'.ownBlock=(δ G b.holds.length cap).ownBlock∨ ∃g,v'.ownBlock=ϊ g/\w.heap.size<=g):
  NQ w (w13.setCell ⟨R,2,ϋ⟩ v') R (δ G b.holds.length cap) v' {b with holds:=ue b.holds h}:=by
 have U:(δ G b.holds.length cap).ownBlock≠ϊ R:=λe=>by have:=(I.row.own_ge e).1;omega
 have Y:v'.ownBlock≠ϊ R:=λe=>by have:=(N.own_ge e).1;omega
 have J:jt (λk=>k=R) w13 (w13.setCell ⟨R,2,ϋ⟩ v'):=(jt.refl (λk=>k=R) w13).set (p:=⟨R,2,ϋ⟩) rfl v';refine⟨⟨qB (qp (H.blk I.blk U) 2 v') rfl,N.away J (λk d x=>Y (by rw[<-x];exact d))⟩, ?_,aa⟩;exact jt.old O ((H.mono λk d=>ϕ d).trans (J.mono λk d=>ϑ d)) λk d=>ϑ d
def CG (b:Jb) (ok:JOK b) (R:Nat) (v:Value) (n d x:Int) (bb:xz n) (w:World) (ab:xZ w R v b):
  Calls prog 246 #[γ R,ι n,ι d,ι x] w λbB w'=>bB= .returned (ι (jP b n d x).2)/\ ∃v',NQ w w' R v v' (jP b n d x).1:=by
 have bo:Hid (b.room<=b.holds.length∨b.holds.length<=8):=κ (by have:=ok.fits;have:=ok.room;omega);have bE:=uY bb;have bF:=uY ok.hi;obtain⟨bQ,bR⟩:=ok.hi;obtain⟨bU,bV⟩:=bb;have bt:=κ ok.bits;have ac:=κ (ab.on (ql.alloc w (.cells #[ι n] 2)));have n1:=qj w (.cells #[ι n] 2);have aS:=κ n1;have ax:=ux b R v _ ac.o ok.hi;have aR:=κ (ql.alloc w (.cells #[ι n] 2));have am: ∀args w,(callFunc 283 args).run prog w= .ok (.enter 283 args) w:=λargs w=>by kernel_rfl
 have bm: ∀args w,(callFunc 284 args).run prog w= .ok (.enter 284 args) w:=λargs w=>by kernel_rfl
 have ao:Hid (ZA 283 #[γ w.heap.size] (λk=>k.1==n) b.holds (w.alloc (.cells #[ι n] 2))):=κ λW' y _ m=>Dp n _ y W' (qq m n1)
 obtain⟨_,_,c2,_,_,_⟩:=ac.o.cells ⟨_,ql.refl _⟩;have bP:w.heap.size≠R:=λe=>by have:=lt_of_block ab.blk;omega
 obtain⟨G,cap,rfl,bT⟩:=ab.row.shape;obtain⟨bk,aK⟩:=ν (JM b n);obtain⟨Y,aH⟩:=ν (b.begun);rw[aH] at ax;obtain⟨bi,aJ⟩:=ν ((if Y=ό then b.hi+1 else 0));rw[aJ] at ax;have bs:=κ ax;have br:=κ aJ;have an:=κ aH;obtain⟨bf,aZ⟩:=ν (yi b.hi b.bits n);have ag:=κ aZ;clear ax aJ aZ;have aQ:Hid ((b.holds.any λk=>k.1==n)=bk):=κ aK;have ai:=κ aK;have bq:Hid ((δ G b.holds.length cap).ownBlock≠ϊ w.heap.size):=κ (λe=>by have:=(ab.row.own_ge e).2;omega);have aP:=κ (lt_of_block ab.blk);have aA:Hid (∀(e:Int) (aC:World),jP b n d x=(b,e)->xZ aC R (δ G b.holds.length cap) b->ql w aC->(Ending.returned (ι e)= .returned (ι (jP b n d x).2)/\ ∃v',NQ w aC R (δ G b.holds.length cap) v' (jP b n d x).1)):=κ (λe aC aa ak bC=>by rw[aa];exact⟨rfl,_,NQ.keep bC ak⟩);clear ab n1 aH aK
 go_enter func246,ntmps246
 go_upto_block 0 with (go_at_call 269;(go_call bs.o as bO w1 ⟨rfl,rfl⟩))
 go_cut [] from 21 to 82 (λN=>xZ N R (δ G b.holds.length cap) b/\N.heap[w.heap.size]? =ϊ (.cells #[ι n] 2)/\ql w N/\jP b n d x=({b with holds:=ue b.holds (n,d,x)},0)/\ ¬b.room<=b.holds.length)
 case first=>
  cases bk
  ·go_upto_region 5 with (go_at_call 270;(go_call xt _ _ (λk=>k.1==n) am b.holds _ (R+1) _ ac.o.row ao.o as aG w2 ⟨rfl,J⟩;rw[aQ.o];have O:=κ (ac.o.on J);have au:=κ (qq J aS.o);have aq:=κ (aR.o.trans J);clear J))
   clear ao c2 am;have bz:=λ(x:qt w2)=>β0 (qq x.h au.o)
   have c4: ∀x:qt w2,x.w'.cell? ⟨R,4,ϋ⟩=ϊ (ι b.hi):=λx=>(O.o.cells x).2.2.2.2.1
   have c5: ∀x:qt w2,x.w'.cell? ⟨R,5,ϋ⟩=ϊ (ψ b.bits):=λx=>(O.o.cells x).2.2.2.2.2
   have aM:Hid (∀W:World,Calls prog 285 #[θ #[ι b.hi,ψ b.bits],ι n] W λe w'=>e= .returned (μ bf)/\ql W w'):=κ λW=>by rw[<-ag.o];exact FX b.hi b.bits n bF bE bt.o W
   obtain⟨q,bd⟩:=ν ((Y&&bf));have ah:=κ bd;clear bd
   go_cut [21] from 28 to 82 (λv N=>v= μ q/\ql w2 N)
   case first=>
    cases Y
    all_goals
     refine qD w2 (ql.refl _) ξ ξ ?_
     repeat (go_big_quiet_step ((go_at_call 285;with_reducible exact j6 (aM.o _))))
     refine wpQuiet_nil ?_;intro _ aL;obtain⟨bl,rfl⟩:=aL;have aj:=κ bl.h;generalize bl.w'=w5 at *;go_wp2;go_meet;exact⟨by rw[<-ah.o];simp,aj.o⟩
   case rest=>
   obtain⟨rfl,aw⟩:=hcut;have af:=κ (O.o.on aw);have aT:=κ (qq aw au.o);have aj:=κ (aq.o.trans aw);clear aw bz c4 c5 O au aq aM;cases q
   ·have bA:=β0 aT.o;obtain⟨aB,be⟩:=ν ((Y&&decide (n<bi)));have ap:=κ be;clear be;have aE:Hid ((Y&&decide (n<b.hi+1))=aB):=κ (by rw[<-ap.o,<-br.o];cases Y<;>simp)
    go_upto_region 7 with fail
    go_cut [37] from 38 to 82 (λv N=>v= μ aB/\wc=N)
    case first=>
     cases Y
     ·go_wp2;go_meet;exact⟨by rw[<-ap.o];rfl,rfl⟩
     ·by_cases hl:n<bi
      ·go_wp2;go_meet;exact⟨by rw[<-ap.o];simp[hl],rfl⟩
      ·go_wp2;go_meet;exact⟨by rw[<-ap.o];simp[hl],rfl⟩
    case rest=>
    obtain⟨rfl,rfl⟩:=hcut;cases aB
    ·go_upto_region 9 with fail
     have bx: ∀x:qt wc,x.w'.cell? ⟨R,0,ϋ⟩=ϊ (ι b.room):=λx=>(af.o.cells x).1
     have c2: ∀x:qt wc,x.w'.cell? ⟨R,2,ϋ⟩=ϊ (δ G b.holds.length cap):=λx=>(af.o.cells x).2.2.1
     by_cases hf:b.room<=b.holds.length
     all_goals
      refine qD wc (ql.refl _) ξ ξ ?_
      repeat (go_big_quiet_step (fail))
      refine wpQuiet_nil ?_;intro _ aL;obtain⟨aD,rfl⟩:=aL;have ad:=κ (af.o.on aD.h);have av:=κ (qq aD.h aT.o);have ar:=κ (aj.o.trans aD.h);clear bx c2 bA;generalize aD.w'=w9 at *
     ·have I:=κ (show jP b n d x=(b,8) by unfold jP;rw[ai.o,an.o,ag.o,ah.o,aE.o,Ϗ ζ,Ϗ ζ,ϓ hf]);go_wp2;go_ret;exact aA.o _ _ I.o ad.o ar.o
     ·go_wp2;go_meet;exact⟨ad.o,av.o,ar.o,by unfold jP;rw[ai.o,an.o,ag.o,ah.o,aE.o,Ϗ ζ,Ϗ ζ,Ϗ τ],τ⟩
    ·have I:=κ (show jP b n d x=(b,9) by unfold jP;rw[ai.o,an.o,ag.o,ah.o,aE.o];rfl);go_wp2;go_ret;exact aA.o _ _ I.o af.o aj.o
   ·have I:=κ (show jP b n d x=(b,10) by unfold jP;rw[ai.o,an.o,ag.o,ah.o];rfl);go_wp2;go_ret;exact aA.o _ _ I.o af.o aj.o
  ·have I:=κ (show jP b n d x=(b,10) by unfold jP;rw[ai.o];rfl)
   go_wp2_with (go_at_call 270;(go_call xt _ _ (λk=>k.1==n) am b.holds _ (R+1) _ ac.o.row ao.o as aG w2 ⟨rfl,J⟩;rw[aQ.o];have O:=κ (ac.o.on J);have au:=κ (qq J aS.o);have aq:=κ (aR.o.trans J);clear J))
   go_ret;exact aA.o _ _ I.o O.o aq.o
 case rest=>
 obtain⟨aX,bh,bg,aY,bD⟩:=hcut;have ad:=κ aX;have av:=κ bh;have ar:=κ bg;have I:=κ aY;have bp:Hid (b.holds.length<=8):=κ (bo.o.resolve_left τ);obtain⟨_,_,aG,_,_,_⟩:=ad.o.cells ⟨_,ql.refl _⟩;have bn:Hid (ZA 284 #[γ w.heap.size] (λk=>decide (n<k.1)) b.holds wc):=κ λW' y _ m=>Wp n _ y W' (qq m av.o)
 clear aX bh bg aY bD c2 ao am;have aN:=κ (wJ _ _ (λk=>decide (n<k.1)) bm b.holds _ (R+1) _ ad.o.row bn.o);obtain⟨bH,aI⟩:=ν (Jk (λk=>decide (n<k.1)) b.holds);rw[aI] at aN;have aO:=κ aI;clear aI
 go_upto_region 12 with (go_at_call 286;(go_call aN.o as aW w10 ⟨rfl,ay⟩;have U:=κ (ad.o.on ay);have bu:=κ (qq ay av.o);have aF:=κ (ar.o.trans ay);obtain⟨_,_,aW,_,_,_⟩:=U.o.cells ⟨_,ql.refl _⟩;clear ay aG))
 obtain⟨bW,ba⟩:=ν (decide (bH<0));have bM:=κ ba;clear ba
 go_upto_if 62 with fail
 go_cut [13] from 63 to 82 (λv N=>v= ι (atJ b.holds n:Int)/\w10=N)
 case first=>
  rcases Fx b.holds n with ⟨aa,ak⟩ | ⟨aa,ak⟩
  ·rw[aO.o] at aa;subst aa;have bS: ¬((atJ b.holds n:Nat):Int)<0:=by omega
   go_wp2;go_meet;exact⟨rfl,rfl⟩
  ·rw[aO.o] at aa;subst aa;have O:=κ ak;clear ak;go_wp2;go_meet;exact⟨by rw[O.o],rfl⟩
 case rest=>
 obtain⟨rfl,rfl⟩:=hcut
 go_upto_region 14 with fail
 have bc:(δ G b.holds.length cap).ownBlock≠ϊ R:=λe=>by have:=(U.o.row.own_ge e).1;omega
 have bG:(δ G b.holds.length cap).ownBlock≠ϊ w.heap.size:=bq.o;have c2:=λ(x:qz (λk=>(δ G b.holds.length cap).ownBlock=ϊ k) w10)=>β2 (x.h.blk U.o.blk bc)
 have c5:=λ(x:qz (λk=>(δ G b.holds.length cap).ownBlock=ϊ k) w10)=>β0 (x.h.blk bu.o bG)
 clear aW;refine QN (λk=>(δ G b.holds.length cap).ownBlock=ϊ k) w10 14 15 [10,11,12,14] ?_
 refine Nx ?_
 (refine Ql ?_;intro K H)
 have az:ql w10 ((w10.drewN 1).alloc (.cells #[ι n,ι d,ι x] 371)):=(ql.drewN w10 1).al _;have aU:jt (λk=>(δ G b.holds.length cap).ownBlock=ϊ k) w10 ((w10.drewN 1).alloc (.cells #[ι n,ι d,ι x] 371)):=jt.of_more az;refine⟨qi aU,H _ _ ?_⟩;clear H K
 (refine Ql ?_;intro K H)
 have bv:Vh b.holds (n,d,x) (δ G b.holds.length cap) (R+1) ((w10.drewN 1).alloc (.cells #[ι n,ι d,ι x] 371)) w10.heap.size:=⟨U.o.row.more az,by have:=aF.o.size;have:=az.size;have:=aP.o;omega,by have:=bp.o;omega,qC (w:=w10.drewN 1) rfl,λe=>by have:=(U.o.row.own_ge e).2;omega⟩;refine(Wk b.holds (atJ b.holds n) (Ua _ _) (n,d,x) _ (R+1) _ _ bv).mono ?_;rintro e bL ⟨v',rfl,bK,bw,bI⟩;have ae:=aU.trans bw;have bj:zT bL (R+1) v' (ue b.holds (n,d,x)):=by
  unfold ue;exact bK
 have bJ:v'.ownBlock=(δ G b.holds.length cap).ownBlock∨ ∃g,v'.ownBlock=ϊ g/\w.heap.size<=g:=bI.elim ϑ λh=>ϕ ⟨_,h,by have:=aF.o.size;have:=az.size;omega⟩
 obtain⟨bX,bN,rfl,_⟩:=bj.shape;refine⟨_,rfl,qi ae,H _ _ ?_⟩;clear H K
 (refine Ql ?_;intro K H)
 refine⟨qi ae,H _ _ ?_⟩;clear H K
 iterate 1 (refine qE rfl rfl (qi ae) ?_;intro K H;go_big_quiet_op;go_big_quiet_on)
 have aV:=ae.blk U.o.blk bc;have aB:=qa aV 2 rfl;have bY:=yw aV 2
 (refine Qe ?_;intro K H)
 refine H _ _ ?_;clear H K;refine qA ?_;go_wp2;go_ret;exact⟨by rw[I.o];rfl,_,by rw[I.o];exact Bl U.o aF.o aP.o ae bj bJ⟩
end
section
open Go.RowKit Go.Lib
def Ce (L:List Hd) (h:Hd):(ue L h).length=L.length+1:=by
 unfold ue;have:=Ua L h.1;rw[ώ,Ϙ,Ϥ,Ϭ];omega
def Xl (L:List Hd) (h k:Hd):k∈ue L h↔k=h∨k∈L:=by
 unfold ue;rw[Ϫ,Ϟ]
 conv=>rhs;rw[<-A7 (atJ L h.1) L,Ϫ]
 constructor
 ·rintro(a | a | a)
  ·exact ϕ (ϑ a)
  ·exact ϑ a
  ·exact ϕ (ϕ a)
 ·rintro(a | a | a)
  ·exact ϕ (ϑ a)
  ·exact ϑ a
  ·exact ϕ (ϕ a)
def PD (k:Hd) (L:List Hd) (h:Hd):ue (k::L) h=if h.1<k.1 then h::k::L else k::ue L h:=by
 unfold ue atJ;rw[List.findIdx_cons];by_cases e:h.1<k.1
 ·simp[e]
 ·simp[e]
def ZU: ∀(L:List Hd) (h:Hd),(L.Pairwise λa c=>a.1<c.1)->(∀k∈L,¬k.1=h.1)->(ue L h).Pairwise λa c=>a.1<c.1
 | [],h,_,_=>by simp[ue,atJ]
 | k::L,h,hp,hn=>by
  rw[J2] at hp;rw[PD];by_cases e:h.1<k.1
  ·rw[ϓ e,J2,J2];refine⟨λc d=> ?_,hp.1,hp.2⟩;rcases Ϟ.1 d with rfl | d
   ·exact e
   ·exact Int.lt_trans e (hp.1 c d)
  ·rw[Ϗ e,J2];have:=hn k ϟ;refine⟨λc d=> ?_,ZU L h hp.2 λc d=>hn c (ϛ _ d)⟩;rcases(Xl L h c).1 d with rfl | d
   ·omega
   ·exact hp.1 c d
def GF (b:Jb) (n:Int):JM b n=ύ↔ ∀k∈b.holds,¬k.1=n:=by
 unfold JM;rw[R0];constructor
 ·intro h k d e;exact h k d (by simpa using e)
 ·intro h k d e;exact h k d (by simpa using e)
def Uz (b:Jb) (n d x:Int):((jP b n d x).1=b/\(jP b n d x).2≠0)∨
  (jP b n d x=({b with holds:=ue b.holds (n,d,x)},0)/\JM b n=ύ/\(b.begun=ό->b.hi<n)/\(b.holds.length:Int)<b.room):=by
 unfold jP;by_cases h1:(JM b n||(b.begun&&yi b.hi b.bits n))=ό
 ·rw[ϓ h1];exact ϑ ⟨rfl,show (10:Int)≠0 by decide⟩
 ·rw[Ϗ h1];by_cases h2:(b.begun&&decide (n<b.hi+1))=ό
  ·rw[ϓ h2];exact ϑ ⟨rfl,show (9:Int)≠0 by decide⟩
  ·rw[Ϗ h2];by_cases h3:b.room<=b.holds.length
   ·rw[ϓ h3];exact ϑ ⟨rfl,show (8:Int)≠0 by decide⟩
   ·rw[Ϗ h3];refine ϕ ⟨rfl, ?_, ?_,τ⟩
    ·cases hs:JM b n with
     | false=>rfl
     | true=>rw[hs] at h1;simp at h1
    ·intro G;rw[G] at h2;simp at h2;omega
def Eu {b:Jb} (d:JOK b) {n H x:Int} (O:xz n) (U:xz H):JOK (jP b n H x).1:=by
 rcases Uz b n H x with ⟨h,_⟩ | ⟨h,J,N,Y⟩
 ·rw[h];exact d
 ·rw[h];refine⟨d.room,d.wait, ?_,λk G=> ?_,ZU _ _ d.rise ((GF b n).1 J),d.hi,d.bits,λI k G=> ?_⟩
  ·show ((ue b.holds (n,H,x)).length:Int)<=b.room;rw[Ce];omega
  ·rcases(Xl _ _ k).1 G with rfl | G
   ·exact⟨O,U⟩
   ·exact d.nums k G
  ·rcases(Xl _ _ k).1 G with rfl | G
   ·exact N I
   ·exact d.over I k G
def VL {b:Jb} (d:JOK b) (G:b.holds=h::T):JOK (xT b):=by
 have O:=d.nums h (by rw[G];exact ϟ);have I:=d.rise;rw[G,J2] at I;have e:xT b={b with holds:=T,begun:=ό,hi:=(wK b h.1).1,bits:=(wK b h.1).2}:=by unfold xT;rw[G]
 have J:(wK b h.1).1=h.1:=by
  unfold wK;split
  ·rename_i N;rw[QD];have:=d.over N h (by rw[G];exact ϟ);omega
  ·rfl
 rw[e];refine⟨d.room,d.wait, ?_,λk H=>d.nums k (by rw[G];exact ϛ _ H),I.2, ?_, ?_,λ_ k H=> ?_⟩
 ·have:=d.fits;rw[G,Ϙ] at this;show ((T.length:Nat):Int)<=b.room;omega
 ·show xz (wK b h.1).1;rw[J];exact O.1
 ·show U64 (wK b h.1).2;unfold wK;split
  ·exact VG _ _ _ d.bits
  ·exact(show U64 1 from ⟨ζ,ζ⟩)
 ·show (wK b h.1).1<k.1;rw[J];exact I.1 k H
end
section
open Go.RowKit Go.Lib
def yD (b:Jb) (now:Int):Jb×Int×Int×Bool:=match b.holds with
 | []=>(b,0,0,ύ)
 | h::_=>if xa b now then (xT b,h.1,h.2.2,ό) else (b,0,0,ύ)
def FJ (b:Jb) (af:JOK b) (R:Nat) (v:Value) (d:Int) (ak:xz d) (w:World) (N:xZ w R v b):
  Calls prog 189 #[γ R,ι d] w λe w'=>e= .returned (.tuple #[ι (yD b d).2.1,ι (yD b d).2.2.1,μ (yD b d).2.2.2])/\ ∃v',NQ w w' R v v' (yD b d).1:=by
 have ab:=κ N;have ac:=κ (Z7 b af R v d ak w N);cases hr:xa b d with
 | false=>
  have J:yD b d=(b,0,0,ύ):=by
   unfold yD;cases b.holds with
   | nil=>rfl
   | cons h T=>simp only[hr];rfl
  rw[J];have U:=κ hr;clear J hr N
  go_enter func189,ntmps189
  go_wp2_with (go_at_call 221;(go_call ac.o as e w1 ⟨rfl,G⟩;rw[U.o];have H:=κ G;clear G))
  refine bodyPost_ret (v:= .tuple #[ι 0,ι 0,ύ]) (by simp[results,results189,go_sem]) rfl ?_;exact⟨rfl,v,NQ.keep H.o (ab.o.on H.o)⟩
 | true=>
  obtain⟨h,T,I⟩: ∃h T,b.holds=h::T:=by
   cases I:b.holds with
   | nil=>unfold xa at hr;rw[I] at hr;cases hr
   | cons h T=>exact⟨h,T,rfl⟩
  have J:yD b d=(xT b,h.1,h.2.2,ό):=by
   unfold yD;rw[I];simp only[hr];rfl
  rw[J];have U:=κ hr;have ah:=κ I;clear J hr N I
  go_enter func189,ntmps189
  go_wp2_with (first | (go_at_call 221;(go_call ac.o as e w1 ⟨rfl,G⟩;rw[U.o];have H:=κ G;have ag:=κ (ab.o.on G);clear G)) | (go_at_call 230;(go_call Z9 b h T ah.o af R v _ ag.o as e w2 ⟨rfl,am,st⟩;have aa:=κ st;clear st)))
  obtain⟨W,O⟩: ∃W,W=w2.alloc (.cells #[ι h.1,ι h.2.1,ι h.2.2] 371):=⟨_,rfl⟩;have ae:W.heap[w2.heap.size]? =ϊ (.cells #[ι h.1,ι h.2.1,ι h.2.2] 371 (0,0)):=by rw[O];exact qj w2 _
  have ad:ql w2 W:=by rw[O];exact ql.alloc w2 _
  have Y:=λ(x:qt W)=>qq x.h ae
  have ao:=λx=>β0 (Y x);have c2:=λx=>β2 (Y x);clear Y
  have ai:=κ ad;rw[<-O];clear O ae ad;generalize w2.heap.size=BX at *;refine qD W (ql.refl _) ξ ξ ?_
  repeat (go_big_quiet_step (fail))
  refine wpQuiet_nil ?_;intro _ al;obtain⟨an,rfl⟩:=al;go_wp2;refine bodyPost_ret (v:= .tuple #[ι h.1,ι h.2.2,ό]) (by simp[results,results189,go_sem]) rfl ?_;have m:=ai.o.trans an.h;refine⟨rfl,am,aa.o.buf.on m, ?_, ?_⟩
  ·exact jt.old H.o (aa.o.away.more m) λk aj=>ϑ aj
  ·exact aa.o.own.elim ϑ λ⟨g,a,c⟩=>ϕ ⟨g,a,ϙ H.o.size c⟩
def Ok (room wait:Int):Prop:=1<=room/\room<=8/\0<=wait/\wait<=1000
instance (r w:Int):Decidable (Ok r w):=by unfold Ok;infer_instance
def CU (room wait:Int):Jb:=⟨room,wait,[],ύ,0,0⟩
def EJ {room d:Int} (h:Ok room d):JOK (CU room d):=
 ⟨⟨h.1,h.2.1⟩,⟨h.2.2.1,h.2.2.2⟩,(by show ((0:Nat):Int)<=room;have:=h.1;omega),λk G=>(by cases G),List.Pairwise.nil,(show xz 0 from ⟨ζ,ζ⟩),(show U64 0 from ⟨ζ,ζ⟩),λe=>(by cases e)⟩
def Lq (room d:Int) (w:World) (h: ¬Ok room d):
  Calls prog 57 #[ι room,ι d] w λe w'=>e= .returned (.tuple #[π ϋ,ι 1])/\w=w':=by
 by_cases h1:room<1
 ·clear h
  go_enter func57,ntmps57
  go_wp2
  go_ret2
  exact⟨rfl,rfl⟩
 ·by_cases h2:8<room
  ·clear h
   go_enter func57,ntmps57
   go_wp2
   go_ret2
   exact⟨rfl,rfl⟩
  ·by_cases h3:d<0
   ·clear h
    go_enter func57,ntmps57
    go_wp2
    go_ret2
    exact⟨rfl,rfl⟩
   ·have G:1000<d:=by unfold Ok at h;omega
    clear h
    go_enter func57,ntmps57
    go_wp2
    go_ret2
    exact⟨rfl,rfl⟩
def YM (room d:Int) (w:World) (h:Ok room d):
  Calls prog 57 #[ι room,ι d] w λe w'=>e= .returned (.tuple #[γ w.heap.size,ι 0])/\xZ w' w.heap.size (δ ϋ 0 0) (CU room d)/\ql w w'/\w.heap.size<w'.heap.size:=by
 obtain⟨G,H,I,J⟩:=h;have N: ¬room<1:=by omega
 have O: ¬8<room:=by omega
 have U: ¬d<0:=by omega
 have Y: ¬1000<d:=by omega
 clear G H I J
 go_enter func57,ntmps57
 go_wp2
 go_ret2
 exact⟨rfl,⟨qj w _,World.ownsRow_nil _ _ _ _⟩,ql.alloc w _,η⟩
end
section
open Go.RowKit Go.Lib
def UI {size n:Nat} (h:w.ownsRow base e size v n xs) (a:jt S w w') (H: ∀k,v.ownBlock=ϊ k-> ¬S k):w'.ownsRow base e size v n xs:=by
 obtain⟨d,G⟩:=h;refine⟨d, ?_⟩;rcases G with h | ⟨g,cap,cur,e1,hb,hg,rest⟩
 ·exact ϑ h
 ·exact ϕ ⟨g,cap,cur,e1,hb,a.blk hg (H g (by rw[e1];rfl)),rest⟩
structure DrJ (w0 wr:World) (R:Nat) (v0 v:Value) (b:Jb) (v3:Value) (A:List Int):Prop where
 buf:xZ wr R v b
 ok:JOK b
 row:wr.ownsRow w0.heap.size 3 1 v3 A.length (A.map (Value.int .i64))
 away:jt (λk=>k=R∨v0.ownBlock=ϊ k) w0 wr
 own:v.ownBlock=v0.ownBlock∨ ∃g,v.ownBlock=ϊ g/\w0.heap.size<=g
 sep: ∀k,v3.ownBlock=ϊ k->v.ownBlock≠ϊ k
def DrJ.step {H wr:World} {v0 v3:Value} {b:Jb} (G:DrJ H wr R v0 v b v3 A) (O:R<H.heap.size) (J:b.holds=h::T) (st:NQ wr w' R v v' (xT b)):DrJ H w' R v0 v' (xT b) v3 A:=by
 have N: ∀k,v3.ownBlock=ϊ k->H.heap.size<=k/\k<wr.heap.size:=λk d=>by
  rcases G.row.2 with ⟨rfl,_⟩ | ⟨g,cap,cur,rfl,J,I,_⟩
  ·cases d
  ·obtain rfl:g=k:=by injection d
   exact⟨J,lt_of_block I⟩
 refine⟨st.buf,VL G.ok J,UI G.row st.away λk d x=> ?_, ?_, ?_,λk d e=> ?_⟩
 ·rcases x with x | x
  ·have:=(N k d).1;omega
  ·exact G.sep k d x
 ·have a:jt (λk=>(k=R∨v0.ownBlock=ϊ k)∨H.heap.size<=k) H w':=(G.away.mono λk d=>ϑ d).trans (st.away.mono λk d=>by
   rcases d with d | d
   ·exact ϑ (ϑ d)
   ·rcases G.own with e | ⟨g,e,I⟩
    ·exact ϑ (ϕ (by rw[<-e];exact d))
    ·rw[e] at d;injection d with d
     exact ϕ τ)
  exact jt.old (ql.refl H) a λk d=>d
 ·rcases st.own with e | ⟨g,e,I⟩
  ·rw[e];exact G.own
  ·exact ϕ ⟨g,e,ϙ G.away.size I⟩
 ·rcases st.own with e2 | ⟨g,e2,I⟩
  ·rw[e2] at e;exact G.sep k d e
  ·rw[e2] at e;injection e with e
   have:=(N k d).2;omega
def DrJ.on {G wr:World} {v0 v3:Value} {b:Jb} (d:DrJ G wr R v0 v b v3 A) (m:ql wr w'):DrJ G w' R v0 v b v3 A:=
 ⟨d.buf.on m,d.ok,jE d.row m,d.away.more m,d.own,d.sep⟩
def DrJ.put {H wr:World} {v0 v3 J:Value} {b:Jb} {A':List Int} (G:DrJ H wr R v0 v b v3 A) (ac:R<H.heap.size) (Y:w'.ownsRow H.heap.size 3 1 J A'.length (A'.map (Value.int .i64))) (I:wr.grownBy w' v3.ownBlock) (aa:J.ownBlock=v3.ownBlock∨J.ownBlock=ϊ wr.heap.size):DrJ H w' R v0 v b J A':=by
 have N: ∀k,v3.ownBlock=ϊ k->H.heap.size<=k:=λk d=>by
  rcases G.row.2 with ⟨rfl,_⟩ | ⟨g,cap,cur,rfl,U,I,_⟩
  ·cases d
  ·obtain rfl:g=k:=by injection d
   exact U
 have a:jt (λk=>v3.ownBlock=ϊ k) wr w':=⟨I.os,I.tape,I.output,I.size,λk d ab=>I.block k d (λe=>ab e.symm)⟩;refine⟨⟨a.blk G.buf.blk λx=>by have:=N R x;omega,G.buf.row.away a λk d x=>G.sep k x d⟩,G.ok,Y, ?_,G.own,λk d e=> ?_⟩
 ·have O:jt (λk=>(k=R∨v0.ownBlock=ϊ k)∨H.heap.size<=k) H w':=(G.away.mono λk d=>ϑ d).trans (a.mono λk d=>ϕ (N k d));exact jt.old (ql.refl H) O λk d=>d
 ·rcases aa with e2 | e2
  ·rw[e2] at d;exact G.sep k d e
  ·rw[e2] at d;injection d with d
   have:=(G.buf.row.own_ge e).2;omega
def Lz:Value->Nat
 | .slice _ n _=>n
 | _=>0
def XA {size n:Nat} (h:w.ownsRow base e size v n xs): ∃oa cap,v= δ oa n cap:=by
 rcases h.2 with ⟨rfl,d⟩ | ⟨g,cap,cur,rfl,_⟩
 ·exact⟨ϋ,0,by rw[d]⟩
 ·exact⟨_,cap,rfl⟩
def Qr:Nat->Jb->Jb
 | 0,b=>b
 | n+1,b=>Qr n (xT b)
def vP (b:Jb):Jb:=Qr b.holds.length b
def thJ (L:List Hd):List Int:=L.map λh=>h.2.2
def Wn (b:Jb) (ok:JOK b) (R:Nat) (v:Value) (w:World) (N:xZ w R v b):
  Calls prog 181 #[γ R] w λe w'=> ∃vx,e= .returned vx/\ ∃v',DrJ w w' R v v' (vP b) vx (thJ b.holds)/\(vP b).holds=[]:=by
 have ac:=lt_of_block N.blk;obtain⟨aq,hi,an,ao,ap⟩:=info_parts (P:=prog) (e:=3) (z:= ι 0) (size:=1) (bytes:=8) ξ;have ak:Hid (b.holds.length<=8):=κ (by have:=ok.fits;have:=ok.room;omega);have ah:Hid (DrJ w w R v v b (δ ϋ 0 0) []):=κ ⟨N,ok,World.ownsRow_nil _ _ _ _,jt.refl _ _,ϑ rfl,λk am=>by cases am⟩;clear N
 go_enter func181,ntmps181
 go_wp2
 go_loopw [3] (λv3 wr=> ∃v' d A,DrJ w wr R v v' d v3 A/\A++thJ d.holds=thJ b.holds/\Qr d.holds.length d=vP b) (λv3 _=>b.holds.length-Lz v3)
 case atStart=>exact⟨v,b,[],ah.o,rfl,rfl⟩
 case round=>
  obtain⟨v',d,A,H,O,ae⟩:=hrel;have aa:=κ ae;clear ae;have I:=κ H;have Y:=κ O;obtain⟨_,_,c2,_,_,_⟩:=H.buf.cells ⟨wr,ql.refl _⟩;obtain⟨aA,cap,rfl,aw⟩:=H.buf.row.shape;obtain⟨ay,c3,rfl⟩:=XA H.row;have ar:A.length+d.holds.length=b.holds.length:=by
   have:=Γ List.length O;unfold thJ at this;rw[ώ,ϱ,ϱ] at this;exact this
  have ab:=κ ar;clear H O;cases hb:d.holds with
  | nil=>
   have G:=κ hb;rw[hb,Ϣ] at c2;clear hb;have aj:Hid (A=thJ b.holds):=κ (by have:=Y.o;rw[G.o] at this;simpa [thJ] using this);go_wp2;go_ret;have ad:d=vP b:=by have:=aa.o;rw[G.o] at this;exact this
   exact⟨_,rfl,⟨_,by rw[<-aj.o,<-ad];exact I.o⟩,by rw[<-ad];exact G.o⟩
  | cons h T=>
   have G:=κ hb;have ax:(0:Int)<(d.holds.length:Int):=by rw[hb];simp
   clear hb;have al:=κ (Z9 d h T G.o I.o.ok R _ wr I.o.buf);have av: ∀w2,(Instr.field 371 (θ #[ι h.1,ι h.2.1,ι h.2.2]) 2).run prog w2= .ok (ι h.2.2) w2:=λw2=>by kernel_rfl
   go_wp2_with (first | (go_at_call 230;(go_call al.o as e w2 ⟨rfl,au,st⟩;have J:=κ (I.o.step ac G.o st);clear st c2)) | (at_builtin;refine qU _ rfl (.tmp 10) (.tmp 14) 57 rfl w.heap.size 3 aq (ι 0) 8 underlying57 hi an ao ap rfl _ .i64 A rfl (J.o.on X6).row _ [h.2.2] rfl (SlI.lit .i64 w2 [h.2.2] 3 _ 1 _ rfl rfl rfl η) (by have:=ak.o;have:=ab.o;simp only[Ϙ,Ϣ];omega) ζ (by have:=J.o.away.size;simp;omega) ?_;intro v5 w5 U af ag;have ai:=κ ((J.o.on X6).put ac U af ag);obtain⟨az,c5,rfl⟩:=XA U;clear U af ag))
   go_roundw
   case rel=>exact⟨au,xT d,A++[h.2.2],(by have:=ai.o;rw[ώ] at this;exact this),by rw[show (xT d).holds=T by unfold xT;rw[G.o]];have:=Y.o;rw[G.o] at this;rw[<-this];simp[thJ],by rw[show (xT d).holds=T by unfold xT;rw[G.o]];have:=aa.o;rw[G.o] at this;exact this⟩
   case measure=>have:=ab.o;rw[G.o] at this;simp[Lz] at *;omega
end
end Go.Proofs.YtmgaiiffmheabaaGreatDoor
