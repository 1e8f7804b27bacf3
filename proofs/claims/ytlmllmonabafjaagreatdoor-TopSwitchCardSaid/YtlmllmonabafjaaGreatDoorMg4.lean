/- x -/
import Derived.Test.YtlmllmonabafjaaGreatDoorMg3
import Derived.KernelRfl
import Derived.Deep.AppendLies
import Derived.Shelf.RegionOpenPlain
import Derived.Deep.RegionLaw
import Derived.Laws.IdiomCopy
import Derived.Lib.AppendZeros
import Derived.Lib.AppendZerosOnto
import Derived.Lib.Overlaps
namespace Go.Proofs.YtlmllmonabafjaaGreatDoor
open Option renaming some->ϊ,none->ϋ
open Bool renaming true->ό,false->ύ
open Go.Value renaming bool->μ,slice->δ,pointer->π,agg->θ
open Go.IntKind renaming i64->ι,u8->υ,u16->φ,u32->ω,i32->χ,u64->ψ
open _root_.Go.Proofs.Tryz
set_option linter.all false
set_option maxHeartbeats 8000000
open Go.RowKit
set_option maxRecDepth 100000
variable {w w':World} {v v' vo:Value} {q:List (List Value)} {Q:Exit->Act->World->Prop} {base R e:Nat} {K:Act->World->Prop} {D S N:Nat->Prop} {P:Program} {ops:Array Oper} {xs:List Value} {l:List ItS} {k:LnB} {s s':LnS} {A:List Int} {a:Act} {o:Oper} {E:Prop}
def DV {t:TypeId} (h:w.heap[k.L]? =ϊ (.cells (j9 k vo s) t (0,0))):w.rangeAt k.L 7 [ω s.rw.src,φ s.rw.sq,ω s.rw.st,s.rw.any,ω s.rw.last,ω s.rw.shift]:=λj v d=>by
 match j,d with
 | 0,d=>exact qi h 7 d
 | 1,d=>exact qi h 8 d
 | 2,d=>exact qi h 9 d
 | 3,d=>exact qi h 10 d
 | 4,d=>exact qi h 11 d
 | 5,d=>exact qi h 12 d
def Z4 {C:World->Prop} (d:TypeId) (x:Operand) (N:o.op= .load d x) (b H:Nat) (U:a.eval x= π (ϊ ⟨b,H,ϋ⟩)) (cs:List Value) (G:TypeDesc) (I:w.rangeAt b H cs)
  (O:P.underlying d=ϊ G) (J:G.isRow=ό) (hi:(P.info? d).map (·.size)=ϊ cs.length) (h:C w/\K (a.put o.dst (θ cs.toArray)) w):jt P C o a w K:=by
 unfold jt execOp;simp only[N,U,Instr.loadAt,Instr.sureAddr,Sem.run_bind,Sem.run_pure,Result.andThen_ok,run_loadVar_mid w b H d cs G I O J hi];exact h
def Z1 (h:LnX N w k vo s) (G:zQ s 2=ύ):Calls prog 138 #[γ k.L] w λe w'=>e= .returned (.tuple #[ι 0,ύ,ύ])/\qh w w':=by
 have d:=Vm h;rw[G] at d;have d:=κ d;clear G h
 go_enter func138,ntmps138
 go_wp2_with (go_at_call 74;(go_call d.o as e w1 ⟨rfl,H⟩;have I:=κ H;clear H))
 refine bodyPost_ret (v:= .tuple #[ι 0,ύ,ύ]) (by simp[results,results138,go_sem]) rfl ?_;exact⟨rfl,I.o⟩
def ZJ (h:LnX N w k vo s) (x:ItS) (ad:Bool) (T:List (ItS×Bool)) (bY:s.B=(x,ad)::T) (X Z Q:Int) (ca:shL s.rw x.pk.st ad=X) (bm:(x.pk.st+X)%4294967296=Z) (bl:(s.rw.sq+1)%65536=Q):
  Calls prog 138 #[γ k.L] w λe w'=>e= .returned (.tuple #[ι (if s.C.length<s.room then 0 else (s.C.head?.map (·.1)).getD 0),(decide (¬s.C.length<s.room)),ό])/\
   LnX (xy N w w') w' k vo {s with B:=T,rw:=⟨s.rw.src,Q,s.rw.st,ό,Z,X⟩,C:=if s.C.length<s.room then s.C++[(x.id,pkB {x.pk with sq:=s.rw.sq,st:=Z,sc:=s.rw.src})] else s.C.tail++[(x.id,pkB {x.pk with sq:=s.rw.sq,st:=Z,sc:=s.rw.src})]}/\qk N w w':=by
 have Y:=κ h;have aF:=Vm h;have cc:zQ s 2=ό:=by
  show decide (0<s.B.length)=ό;rw[bY];simp
 rw[cc] at aF;have aF:=κ aF;have cJ:=κ (λ(mr:Bool) (ty q so:Int) (w:World)=>CY s.rw.src s.rw.sq s.rw.st s.rw.last s.rw.shift s.rw.any ad mr ty q x.pk.st so w X ca Z bm Q bl);have cX:U32 Z:=by rw[<-bm];exact⟨τ,τ⟩
 have cW:U16 Q:=by rw[<-bl];exact⟨τ,τ⟩
 obtain⟨aN,dz,bQ,cO,bN,bP,cQ,ay,be⟩:=h.r2;rw[bY] at be;obtain⟨c,q,rfl,aI,bM⟩:=be.uncons;have AQ:=κ bM;obtain⟨dE,dC,vp,rfl,⟨⟨os,I,rfl,_⟩,⟨J,ke,rfl,_⟩,⟨O,H,rfl,_⟩⟩,aa,cj⟩:=aI.read;have aQ: ∀w',qk (lnE N k vo) w w'->PkS w' (δ os x.pk.ss.length I) (δ J x.pk.ex.length ke) (δ O x.pk.pl.length H) x.pk:=λw' a=>by
  obtain⟨dF,dD,vp',e,cf,_⟩:=aI w' a;simp[itC] at e;obtain⟨ax,aL,aM⟩:=e;rw[<-ax,<-aL,<-aM] at cf;exact cf
 have bn:ud {x.pk with sq:=s.rw.sq,st:=Z,sc:=s.rw.src}:=⟨aa.ty,h.ok.sq,cX,h.ok.src,aa.ss,aa.pr,aa.ex,aa.pl⟩;have bq:jD {x.pk with sq:=s.rw.sq,st:=Z,sc:=s.rw.src}=ό:=cj;have cD:Hid (∀w',qk (lnE N k vo) w w'->Calls prog 37 #[θ #[μ x.pk.mr,υ x.pk.ty,φ s.rw.sq,ω Z,ω s.rw.src,δ os x.pk.ss.length I,x.pk.has,φ x.pk.pr,δ J x.pk.ex.length ke,δ O x.pk.pl.length H]] w' λe w''=>(∃v,e= .returned (.tuple #[v,ι 0])/\w''.ownsRow w'.heap.size 5 1 v (pkB {x.pk with sq:=s.rw.sq,st:=Z,sc:=s.rw.src}).length ((pkB {x.pk with sq:=s.rw.sq,st:=Z,sc:=s.rw.src}).map (Value.int .u8)))/\qh w' w''):=
  κ λw' a=>Qb {x.pk with sq:=s.rw.sq,st:=Z,sc:=s.rw.src} _ _ _ w' ⟨(aQ w' a).s,(aQ w' a).e,(aQ w' a).l⟩ bn bq
 have aX:Hid ((pkB {x.pk with sq:=s.rw.sq,st:=Z,sc:=s.rw.src}).length<=200/\Byt (pkB {x.pk with sq:=s.rw.sq,st:=Z,sc:=s.rw.src})):=κ ⟨by
  have cT:=Xw {x.pk with sq:=s.rw.sq,st:=Z,sc:=s.rw.src};have cU:=((jZ _).1 bq).2.2.2.2
  omega,UT bn⟩
 clear aQ aa bn cj bq ca bm bl;generalize pkB {x.pk with sq:=s.rw.sq,st:=Z,sc:=s.rw.src}=body at *;obtain⟨dg,bs⟩:=ν ((if s.C.length<s.room then 0 else (s.C.head?.map (·.1)).getD 0));obtain⟨df,bp⟩:=ν (decide (¬s.C.length<s.room));obtain⟨dA,bo⟩:=ν ((if s.C.length<s.room then s.C++[(x.id,body)] else s.C.tail++[(x.id,body)]));rw[bs,bp,bo];have cI:=κ bs;have cH:=κ bp;have cG:=κ bo;clear bs bp bo;simp only[itC,List.cons_append,I5] at aI ay;have cz:=κ ay;have ds:k.R2<w.heap.size:=qq ay.ring;have dn:k.A2<w.heap.size:=qq ay.row;have ae:=κ h.dist;clear h cc ay aI bM be
 go_enter func138,ntmps138
 go_wp2_with (first | (go_at_call 74;(go_call aF.o as e w1 ⟨rfl,aA⟩;have cK:=κ aA;have bD:=κ (qj aA Y.o.blk);have dH:Hid (w.heap.size<=w1.heap.size):=κ aA.size;have cy:=κ (cz.o.more aA);clear aA;have c2:w1.cell? ⟨k.L,2,ϋ⟩=ϊ (π (ϊ ⟨k.R2,0,ϋ⟩)):=qi bD.o 2 rfl)) | (go_at_call 200;(go_call Ry w1 k.R2 k.A2 s.room aN _ q bQ cO bN bP cQ cy.o as e w2 ⟨rfl,⟨cP,bW⟩,bf⟩;have cA:=κ bW;have A2:Hid (qk (RgB k.R2 k.A2) w w2):=κ ((qk.of_more cK.o).trans bf);have aS:Hid (w2.heap[k.L]? =ϊ (.cells (j9 k vo s) 153 (0,0))):=κ (bf.blk bD.o (by obtain⟨⟨ag,ao,ah,ai,_⟩,_⟩:=ae.o;rintro(e | e)<;>omega));clear bW bf)))
 obtain⟨ac,az⟩:=ν ((w2.alloc (.cells (Γk x os I J ke O H ad) 255)).alloc (.cells (Γh x.pk os I J ke O H) 63));have aZ:Hid (qh w2 ac):=κ (by rw[<-az];exact Z0.al _);have bc:Hid (ac.heap[w2.heap.size]? =ϊ (.cells (Γk x os I J ke O H ad) 255 (0,0))):=κ (by rw[<-az];exact qv (qp w2 _) _);have bb:Hid (ac.heap[w2.heap.size+1]? =ϊ (.cells (Γh x.pk os I J ke O H) 63 (0,0))):=κ (by rw[<-az];exact qH η);have aT:=κ (qj aZ.o aS.o);rw[az];clear az;have cu: ¬w2.heap.size=k.L:=by have:=qq aS.o;omega
 have bu: ¬w2.heap.size+1=k.L:=by have:=qq aS.o;omega
 have bH: ∀y:qC (λb=>b=k.L) ac,y.w'.rangeAt (w2.heap.size+1) 0 [μ x.pk.mr,υ x.pk.ty,φ x.pk.sq,ω x.pk.st,ω x.pk.sc]:=λy=>by
  have:=jQ (cs:=(Γh x.pk os I J ke O H)) (y.h.blk bb.o bu);intro j v aq;refine this j v ?_;have cY:=(ϟ.1 aq).1;rw[<-aq];exact ϻ (l₁:=[μ x.pk.mr,υ x.pk.ty,φ x.pk.sq,ω x.pk.st,ω x.pk.sc]) (l₂:=[δ os x.pk.ss.length I,x.pk.has,φ x.pk.pr,δ J x.pk.ex.length ke,δ O x.pk.pl.length H]) cY
 have cN: ∀y:qC (λb=>b=k.L) ac,y.w'.cell? ⟨w2.heap.size,13,ϋ⟩=ϊ (μ ad):=λy=>qi (y.h.blk bc.o cu) 13 rfl
 refine zO (λb=>b=k.L) ac 17 [(0,ύ),(1,ύ),(2,ύ),(3,ύ),(5,ύ),(6,ύ),(7,ύ),(8,ύ),(4,ό),(9,ό),(10,ύ),(11,ύ),(12,ύ),(13,ύ),(14,ύ),(15,ό),(16,ύ),(17,ό)] ξ ξ ?_
 refine Qs5 ?_
 refine jg rfl rfl (qn σ) 60 (.tmp 33) rfl (w2.heap.size+1) 0 rfl [μ x.pk.mr,υ x.pk.ty,φ x.pk.sq,ω x.pk.st,ω x.pk.sc] _ (λw' dd=>by obtain⟨y,rfl⟩:=dd;exact bH y) underlying60 rfl ξ ?_;intro K d;go_simp;refine d _ ?_;clear d K
 refine Qs2 ?_
 refine jY rfl rfl ?_;intro K d;refine Z4 149 (.tmp 31) rfl k.L 7 rfl [ω s.rw.src,φ s.rw.sq,ω s.rw.st,s.rw.any,ω s.rw.last,ω s.rw.shift] _ (DV (qr aT.o 1)) underlying149 rfl ξ ?_;refine⟨qn σ, ?_⟩;go_simp;refine d _ _ ?_;clear d K
 (refine Ql ?_;intro K d)
 go_call cJ.o _ _ _ _ _ as e w5 ⟨rfl,cq⟩;have af:Hid (qh ac w5):=κ ((qh.drewN _ 1).trans cq);clear cq;have aU:=κ (qj af.o aT.o);have bI:=κ (qj af.o bb.o);have bK:=κ (qj af.o bc.o);refine⟨_,rfl,qn (qk.of_more af.o),d _ _ ?_⟩;clear d K bH cN
 iterate 5 (refine qz rfl rfl (qn (qk.of_more af.o)) ?_;intro K d;go_big_quiet_op;go_big_quiet_on)
 refine jY rfl rfl ?_;intro K d;refine zt 149 (.tmp 41) (.tmp 38) rfl k.L 7 153 _ [ω s.rw.src,φ Q,ω s.rw.st,ό,ω Z,ω X] rfl rfl aU.o (by show 7+6<=16;decide) ξ Z5 ?_;have aj:Hid (qk (λb=>b=k.L) ac (w5.setRow k.L (xp (j9 k vo s).toList 7 [ω s.rw.src,φ Q,ω s.rw.st,ό,ω Z,ω X]).toArray)):=κ ((qk.of_more (S:=λb=>b=k.L) af.o).row (g:=k.L) rfl _);have aV:Hid ((w5.setRow k.L (xp (j9 k vo s).toList 7 [ω s.rw.src,φ Q,ω s.rw.st,ό,ω Z,ω X]).toArray).heap[k.L]? =ϊ (.cells (j9 k vo {s with rw:=⟨s.rw.src,Q,s.rw.st,ό,Z,X⟩}) 153 (0,0))):=κ (qF (xh aU.o _) rfl);have aH:Hid ((w5.setRow k.L (xp (j9 k vo s).toList 7 [ω s.rw.src,φ Q,ω s.rw.st,ό,ω Z,ω X]).toArray).heap[w2.heap.size+1]? =ϊ (.cells (Γh x.pk os I J ke O H) 63 (0,0))):=κ (qZ bI.o _ bu);have bd:Hid ((w5.setRow k.L (xp (j9 k vo s).toList 7 [ω s.rw.src,φ Q,ω s.rw.st,ό,ω Z,ω X]).toArray).heap[w2.heap.size]? =ϊ (.cells (Γk x os I J ke O H ad) 255 (0,0))):=κ (qZ bK.o _ cu);obtain⟨w6,ck⟩:=ν (w5.setRow k.L (xp (j9 k vo s).toList 7 [ω s.rw.src,φ Q,ω s.rw.st,ό,ω Z,ω X]).toArray);rw[ck] at aj aV aH bd ⊢;clear ck aU bI bK af;refine⟨qn aj.o, ?_⟩;go_simp;refine d _ _ ?_;clear d K
 iterate 1 (refine qz rfl rfl (qn aj.o) ?_;intro K d;go_big_quiet_op;go_big_quiet_on)
 refine yk rfl rfl ζ ?_;intro K d;refine zt 60 (.tmp 42) (.tmp 39) rfl (w2.heap.size+1) 0 63 _ [μ x.pk.mr,υ x.pk.ty,φ s.rw.sq,ω Z,ω s.rw.src] rfl rfl aH.o (by show 0+5<=10;decide) ξ Z5 ?_;have au:Hid (qk (λb=>b=k.L∨RgB k.R2 k.A2 b) w (w6.setRow (w2.heap.size+1) (xp ((Γh x.pk os I J ke O H):Array Value).toList 0 [μ x.pk.mr,υ x.pk.ty,φ s.rw.sq,ω Z,ω s.rw.src]).toArray)):=κ ((((A2.o.mono λb G=>ϓ G).more aZ.o).trans (aj.o.mono λb G=>ϐ G)).rowNew (by have:=A2.o.size;omega) _);have bE:Hid ((w6.setRow (w2.heap.size+1) (xp ((Γh x.pk os I J ke O H):Array Value).toList 0 [μ x.pk.mr,υ x.pk.ty,φ s.rw.sq,ω Z,ω s.rw.src]).toArray).heap[k.L]? =ϊ (.cells (j9 k vo {s with rw:=⟨s.rw.src,Q,s.rw.st,ό,Z,X⟩}) 153 (0,0))):=κ (qZ aV.o _ (λe=>bu e.symm));have bJ:Hid ((w6.setRow (w2.heap.size+1) (xp ((Γh x.pk os I J ke O H):Array Value).toList 0 [μ x.pk.mr,υ x.pk.ty,φ s.rw.sq,ω Z,ω s.rw.src]).toArray).heap[w2.heap.size+1]? =ϊ (.cells #[μ x.pk.mr,υ x.pk.ty,φ s.rw.sq,ω Z,ω s.rw.src,δ os x.pk.ss.length I,x.pk.has,φ x.pk.pr,δ J x.pk.ex.length ke,δ O x.pk.pl.length H] 63 (0,0))):=κ (qF (xh aH.o _) rfl);have bL:Hid ((w6.setRow (w2.heap.size+1) (xp ((Γh x.pk os I J ke O H):Array Value).toList 0 [μ x.pk.mr,υ x.pk.ty,φ s.rw.sq,ω Z,ω s.rw.src]).toArray).heap[w2.heap.size]? =ϊ (.cells (Γk x os I J ke O H ad) 255 (0,0))):=κ (qZ bd.o _ τ);have bG:Hid (qU 14 330 255 (w6.setRow (w2.heap.size+1) (xp ((Γh x.pk os I J ke O H):Array Value).toList 0 [μ x.pk.mr,υ x.pk.ty,φ s.rw.sq,ω Z,ω s.rw.src]).toArray) k.R2 k.A2 s.room ((aN+1)%s.room) q bQ cP bN bP _):=κ (((cA.o.more aZ.o).away aj.o (by obtain⟨⟨ag,ao,ah,ai,_⟩,_⟩:=ae.o;exact C6 ah) (by obtain⟨⟨ag,ao,ah,ai,_⟩,_⟩:=ae.o;exact C6 ai)).away (xt _ _ _) (λe=>by have:=A2.o.size;omega) (λe=>by have:=A2.o.size;omega));obtain⟨W7,bZ⟩:=ν (w6.setRow (w2.heap.size+1) (xp ((Γh x.pk os I J ke O H):Array Value).toList 0 [μ x.pk.mr,υ x.pk.ty,φ s.rw.sq,ω Z,ω s.rw.src]).toArray);rw[bZ] at au bE bJ bL bG ⊢;clear bZ aj aV aH bd bb bc aT;refine⟨trivial, ?_⟩;go_simp;refine d _ _ ?_;clear d K;refine qD ?_;have cv:Hid (qk (lnE N k vo) w W7):=κ (au.o.mono λb G=>uD (by rcases G with e | e;exact ϐ e;exact ϓ (ϓ (ϐ e))))
 go_wp2_with (first | (refine vh (.load 63 (.tmp 7)) rfl ?_;refine kv rfl 63 (.tmp 7) rfl (w2.heap.size+1) 63 _ _ bJ.o rfl underlying63 rfl ξ ?_) | (go_at_call 37;(go_call cD.o _ cv.o as e w8 ⟨⟨dB,rfl,aR⟩,cr⟩;have ba:=κ aR;have aG:=κ cr;have cL:=κ (SlI.of_owns aR (by have:=aX.o.1;omega));obtain⟨aJ,aK,rfl⟩:=KA aR;clear aR cr)))
 obtain⟨aO,aB,bR,bi,bO,bh,bS,aP,a3⟩:=Y.o.r3;have bz:Hid (qk (λb=>b=k.L∨RgB k.R2 k.A2 b) w w8):=κ (au.o.more aG.o);have bF:=κ (qj aG.o bE.o);have cM:=κ (qj aG.o bL.o);have cB:=κ (bG.o.more aG.o);have bA:=κ a3;have ci:aB.length=s.C.length:=a3.len;have dt:k.R3<w.heap.size:=qq aP.ring;have dp:k.A3<w.heap.size:=qq aP.row;have dI:w.heap.size<=w2.heap.size:=A2.o.size;have aw:Hid (qU 2 332 56 w8 k.R3 k.A3 s.room aO aB bR bi bO bh bS):=κ (aP.away bz.o (by obtain⟨⟨ag,ao,ah,ai,bj,bk⟩,⟨ax,aL,aM,bU,bV⟩,⟨aN,cR,aO,cS⟩,⟨cl,cm,cn⟩,⟨co,cp⟩,_⟩:=ae.o;rintro(e | e | e)<;>omega) (by obtain⟨⟨ag,ao,ah,ai,bj,bk⟩,⟨ax,aL,aM,bU,bV⟩,⟨aN,cR,aO,cS⟩,⟨cl,cm,cn⟩,⟨co,cp⟩,_⟩:=ae.o;rintro(e | e | e)<;>omega));obtain⟨ar,bv,bw,op,ce,cg⟩:=DA w8 k.R3 k.A3 s.room aO aB bR bi bO bh bS aw.o (WH a3) [ι x.id,δ aJ body.length aK] ⟨rfl,by simp[Value.oneCell']⟩;have aY:=κ cg;have cF:=κ ce;clear cg ce aP a3;generalize cb:decide (¬aB.length<s.room)=dr at aY;have cE:=κ cb;clear cb;have ct: ¬RgB k.R3 k.A3 k.L:=by
  obtain⟨⟨ag,ao,ah,ai,bj,bk⟩,_⟩:=ae.o;rintro(e | e)<;>omega
 have de: ¬RgB k.R3 k.A3 w2.heap.size:=by rintro(e | e)<;>omega
 go_cut [10,11,12] from 48 (λdh di dj bx=> ∃C,dh= γ C/\di= μ dr/\dj= ι 0/\bx.heap[C]? =ϊ (.cells #[ι ar,δ bv bw op] 56 (0,0))/\qk (RgB k.R3 k.A3) w8 bx/\ ∃ap am ak an,qU 2 332 56 bx k.R3 k.A3 s.room ap (kf s.room aB [ι x.id,δ aJ body.length aK]) am bi ak bh an)
 case first=>
  have dk: ∀y:qC (RgB k.R3 k.A3) w8,y.w'.cell? ⟨k.L,3,ϋ⟩=ϊ (π (ϊ ⟨k.R3,0,ϋ⟩)):=λy=>qi (y.h.blk bF.o ct) 3 rfl
  have dl: ∀y:qC (RgB k.R3 k.A3) w8,y.w'.cell? ⟨w2.heap.size,0,ϋ⟩=ϊ (ι x.id):=λy=>qi (y.h.blk cM.o de) 0 rfl
  refine gm (RgB k.R3 k.A3) w8 18 (.op 0 ύ (.op 1 ύ (.op 2 ύ (.op 3 ύ (.op 4 ύ (.op 5 ύ (.op 6 ύ (.op 7 ύ (.op 8 ύ (.br [9,14] λk=>if k=9 then .op 10 ύ (.op 11 ύ (.op 12 ύ (.op 13 ύ (.op 14 ό (.op 15 ό (.op 16 ύ (.op 17 ύ (.done)))))))) else .op 9 ό (.op 10 ύ (.op 11 ύ (.op 12 ύ (.op 13 ύ (.op 15 ό (.op 16 ύ (.op 17 ύ (.done)))))))))))))))))) ξ ξ ?_
  repeat (first | (refine jl rfl rfl (qn σ) ?_) | (refine qK rfl rfl (qn σ) ?_;intro K d;go_big_quiet_op;go_big_quiet_on))
  refine gK ζ ?_ ?_
  ·(refine qV rfl rfl ?_;intro K d;unfold jt;go_simp)
   go_call aY.o _ (aw.o.more (qh.drewN w8 1)) as e w9 ⟨rfl,ab,a9⟩;have U:Hid (qk (RgB k.R3 k.A3) w8 w9):=κ (((qk.refl _ _).drewN 1).trans a9);have aW:=κ ab;clear a9 ab;refine⟨_,rfl,qn U.o,d _ _ ?_⟩;clear d K
   repeat (first | (refine jl rfl rfl (qn U.o) ?_) | (refine qK rfl rfl (qn U.o) ?_;intro K d;go_big_quiet_op;go_big_quiet_on))
   (refine qV rfl rfl ?_;intro K d;unfold jt;go_simp)
   refine⟨qn (U.o.alc _),d _ _ ?_⟩;clear d K
   (refine qV rfl rfl ?_;intro K d;unfold jt;go_simp)
   refine⟨qn (U.o.alc _),d _ _ ?_⟩;clear d K
   repeat (first | (refine jl rfl rfl (qn (U.o.alc _)) ?_) | (refine qK rfl rfl (qn (U.o.alc _)) ?_;intro K d;go_big_quiet_op;go_big_quiet_on))
   refine zD ?_;go_wp2;go_meet;obtain⟨ap,am,ak,an,ab⟩:=aW.o;exact⟨_,rfl,rfl,rfl,qp w9 _,U.o.alc _,ap,am,ak,an,ab.more Z0⟩
  ·(refine qV rfl rfl ?_;intro K d;unfold jt;go_simp)
   refine⟨qn (((qk.refl _ w8).drewN 1).alc _),d _ _ ?_⟩;clear d K
   (refine qV rfl rfl ?_;intro K d;unfold jt;go_simp)
   go_call aY.o _ (aw.o.more ((qh.drewN w8 1).al _)) as e w9 ⟨rfl,ab,a9⟩;have U:Hid (qk (RgB k.R3 k.A3) w8 w9):=κ ((((qk.refl _ _).drewN 1).alc _).trans a9);have aW:=κ ab;have du:k.R3<w8.heap.size:=qq aw.o.ring;have dq:k.A3<w8.heap.size:=qq aw.o.row;have av:Hid (w9.heap[w8.heap.size]? =ϊ (.cells Γs 56 (0,0))):=κ (a9.blk (qH rfl) Xaa);clear a9 ab;have dm:w9.cell? ⟨w8.heap.size,0,ϋ⟩=ϊ (ι 0):=qi av.o 0 rfl;have ag:w9.cell? ⟨w8.heap.size,1,ϋ⟩=ϊ (δ ϋ 0 0):=qi av.o 1 rfl;have e0:w9.frozen? ⟨w8.heap.size,0,ϋ⟩=ύ:=ql av.o 0;have ax:w9.frozen? ⟨w8.heap.size,1,ϋ⟩=ύ:=ql av.o 1;refine⟨_,rfl,qn U.o,d _ _ ?_⟩;clear d K
   repeat (first | (refine jl rfl rfl (qn U.o) ?_) | (refine qK rfl rfl (qn U.o) ?_;intro K d;go_big_quiet_op;go_big_quiet_on))
   (refine qV rfl rfl ?_;intro K d;unfold jt;go_simp)
   have aC:qk (RgB k.R3 k.A3) w8 ((w9.setCell ⟨w8.heap.size,0,ϋ⟩ (ι ar)).setCell ⟨w8.heap.size,1,ϋ⟩ (δ bv bw op)):=(U.o.setNew (ϕ _) _).setNew (ϕ _) _;have cw:qk (λb=>b=w8.heap.size) w9 ((w9.setCell ⟨w8.heap.size,0,ϋ⟩ (ι ar)).setCell ⟨w8.heap.size,1,ϋ⟩ (δ bv bw op)):=((qk.refl (λb=>b=w8.heap.size) w9).set (p:=⟨w8.heap.size,0,ϋ⟩) rfl _).set (p:=⟨w8.heap.size,1,ϋ⟩) rfl _;refine⟨qn aC,d _ _ ?_⟩;clear d K
   repeat (first | (refine jl rfl rfl (qn aC) ?_) | (refine qK rfl rfl (qn aC) ?_;intro K d;go_big_quiet_op;go_big_quiet_on))
   refine zD ?_;go_wp2;go_meet;obtain⟨ap,am,ak,an,ab⟩:=aW.o;exact⟨_,rfl,rfl,rfl,qF (qt (qt av.o 0 _) 1 _) rfl,aC,ap,am,ak,an,ab.away cw τ τ⟩
 case rest=>
 obtain⟨C,rfl,rfl,rfl,bT,bg,ap,am,ak,an,bX⟩:=hcut;have aE:=κ bg;have cC:=κ bX;have cx:Hid (wc.heap[k.L]? =ϊ (.cells (j9 k vo {s with rw:=⟨s.rw.src,Q,s.rw.st,ό,Z,X⟩}) 153 (0,0))):=κ (bg.blk bF.o ct);have dG:wc.cell? ⟨C,0,ϋ⟩=ϊ (ι ar):=qi bT 0 rfl;clear bg bX bT;go_wp2;refine bodyPost_ret (v:= .tuple #[ι ar,dr,ό]) (by simp[results,results138,go_sem]) rfl ?_;obtain⟨⟨ag,ao,ah,ai,bj,bk⟩,⟨ax,aL,aM,bU,bV⟩,⟨dv,dw,dx,dy⟩,⟨cl,cm,cn⟩,⟨co,cp⟩,_⟩:=ae.o;have bC:qk (λb=>b=k.L∨RgB k.R2 k.A2 b∨RgB k.R3 k.A3 b) w wc:=(bz.o.mono λb G=>by rcases G with e | e;exact ϐ e;exact ϓ (ϐ e)).trans (aE.o.mono λb G=>ϓ (ϓ G));have cd: ∀b,(b=k.L∨RgB k.R2 k.A2 b∨RgB k.R3 k.A3 b)->k.muts b:=λb G=>by rcases G with e | e | e;exact ϐ e;exact ϓ (ϓ (ϐ e));exact ϓ (ϓ (ϓ e))
 have aD:qk k.muts w wc:=bC.mono cd;have bB:qk (lnM k vo) w wc:=aD.mono λb G=>ϐ G
 have aq: ∀b,vo.ownBlock=ϊ b->vo.ownBlock=ϊ b∨w.heap.size<=b:=λb G=>ϐ G
 have cV: ∀b,(b=k.L∨RgB k.R2 k.A2 b∨RgB k.R3 k.A3 b)->lnE N k vo b:=λb G=>uD (cd b G)
 have aa:=Y.o.ok;have cZ:jv ROu (lnE (xy N w wc) k vo) wc [ι x.id,δ aJ body.length aK] (x.id,body):=λw'' a=>by
  refine⟨_,rfl, ?_,aX.o.2,aX.o.1⟩
  have dc:SlI .u8 wc (δ aJ body.length aK) body:=cL.o.off (λb e G=>by
   have cT:=uP ba.o e;have cU:=au.o.size
   rcases G with G | G<;>omega) aE.o
  refine Y.o.fresh (vo':=vo) dc (λb e=>⟨ϙ au.o.size (uP ba.o e),ϗ (V0 ba.o e) aE.o.size⟩) (λb e=>e) a
 have ch:=BQ (R:=ROu) (D:=lnE (xy N w wc) k vo) (w:=wc) (room:=s.room) (bA.o.mono λc y bt=>Y.o.held bt bB aq) cZ;have da:ar=dg:=by rw[cF.o,ci,DE bA.o];exact cI.o
 have db:dr=df:=by rw[<-cE.o,ci];exact cH.o
 rw[cG.o] at ch;rw[<-da,<-db];refine⟨rfl,Y.o.make aD.size cx.o (Y.o.r1.step bC (by rintro(e | (e | e) | (e | e))<;>omega) (by rintro(e | (e | e) | (e | e))<;>omega) cV λb G=>ϐ (xT Y.o.own aq G)) ⟨_,_,_,_,_,_,_,cB.o.away aE.o Xaa Xaa,AQ.o.mono λc y bt=>Y.o.held bt bB aq⟩ ⟨_,_,_,_,_,_,_,cC.o,ch⟩ (Y.o.rows aD) ⟨aa.most,aa.row,aa.lt,cW,aa.src⟩,aD.mono λb G=>Y.o.muts b G⟩
def Wp (h:LnX N w k vo s):Calls prog 138 #[γ k.L] w λe w'=>e= .returned (.tuple #[ι (qN s).2.1,μ (qN s).2.2.1,μ (qN s).2.2.2])/\LnX (xy N w w') w' k vo (qN s).1/\qk N w w':=by
 cases hB:s.B with
 | nil=>
  have e:qN s=(s,0,ύ,ύ):=by unfold qN;rw[hB]
  rw[e];refine(Z1 h (by show decide (0<s.B.length)=ύ;rw[hB];rfl)).mono ?_;rintro e w' ⟨rfl,m⟩;exact⟨rfl,h.grow m,qk.of_more m⟩
 | cons y T=>
  obtain⟨x,d⟩:=y;have e:qN s=((vL {s with B:=T,rw:=uC s.rw x.pk d} (x.id,pkB (vX s.rw x.pk d))).1,(vL {s with B:=T,rw:=uC s.rw x.pk d} (x.id,pkB (vX s.rw x.pk d))).2.1,(vL {s with B:=T,rw:=uC s.rw x.pk d} (x.id,pkB (vX s.rw x.pk d))).2.2,ό):=by unfold qN;rw[hB]
  rw[e];have G:=ZJ h x d T hB (shL s.rw x.pk.st d) ((x.pk.st+shL s.rw x.pk.st d)%4294967296) ((s.rw.sq+1)%65536) rfl rfl rfl;by_cases hc:s.C.length<s.room
  ·have H:vL {s with B:=T,rw:=uC s.rw x.pk d} (x.id,pkB (vX s.rw x.pk d))=({s with B:=T,rw:=uC s.rw x.pk d,C:=s.C++[(x.id,pkB (vX s.rw x.pk d))]},0,ύ):=by unfold vL;rw[ϒ hc]
   rw[H];simp only[hc,Ψ,not_true,decide_false] at G;exact G
  ·have H:vL {s with B:=T,rw:=uC s.rw x.pk d} (x.id,pkB (vX s.rw x.pk d))=({s with B:=T,rw:=uC s.rw x.pk d,C:=s.C.tail++[(x.id,pkB (vX s.rw x.pk d))]},(s.C.head?.map (·.1)).getD 0,ό):=by unfold vL;rw[ώ hc]
   rw[H];simp only[hc,C4,not_false_iff,decide_true] at G;exact G
theorem xI {rest:List Oper} {op:Oper} (U:Region.wanted op (yielded ops a.tmps)=ό) (d:TypeId) (x:Operand) (N:op.op= .load d x)
  (b o:Nat) (Y:a.eval x= π (ϊ ⟨b,o,ϋ⟩)) (cs:List Value) (G:TypeDesc) (I:w.rangeAt b o cs)
  (O:P.underlying d=ϊ G) (J:G.isRow=ό) (hi:(P.info? d).map (·.size)=ϊ cs.length)
  (h:wpList P ops Q rest (a.put op.dst (θ cs.toArray)) w):wpList P ops Q (op::rest) a w:=
 wpList_step λK H=>by
  rw[ϒ U];exact wp_load_mid d x N b o Y cs G I O J hi (H _ _ h)
def kW {b t:Nat} {a0 d G:Value} {cs:List Value} (h:w.heap[b]? =ϊ (.cells (a0::d::G::cs).toArray t (0,0))):w.rangeAt b 3 cs:=λj v H=>by
 rw[cell_of_row w b (3+j) _ t (0,0) h,A6,show 3+j=j+1+1+1 by omega]
 simpa using H
def Uq (a:zR (jv RIt D w) q l): ∀c∈q,∃(y:ItS) (G H J:Option Addr) (an d bn I cn N:Nat),c=[ι y.id,ι y.layer,y.key,y.pk.mr,υ y.pk.ty,φ y.pk.sq,ω y.pk.st,ω y.pk.sc,δ G an d,y.pk.has,φ y.pk.pr,δ H bn I,δ J cn N]:=λc O=>by
 obtain⟨y,_,U⟩:=a.mem c O;obtain⟨aa,Y,vp,rfl,⟨⟨G,d,rfl,_⟩,⟨H,I,rfl,_⟩,⟨J,N,rfl,_⟩⟩,_⟩:=U.read;exact⟨y,G,H,J,_,d,_,I,_,N,rfl⟩
def WO (a:zR (jv RIt D w) q l):(q.head?.map idN).getD 0=(l.head?.map (·.id)).getD 0:=by
 cases l with
 | nil=>rw[a.nil_r];rfl
 | cons o l=>
  obtain⟨c,q',rfl,d,_⟩:=a.uncons;obtain⟨H,G,vp,rfl,_⟩:=d.read;rfl
def DB (am:World) (R A room f:Nat) (q:List (List Value)) (ad ab ac O:Int) (css:List (List Value)) (ai:qU 13 327 253 am R A room f q ad ab ac O css)
  (al: ∀c∈q,∃(y:ItS) (H I U:Option Addr) (G d N J aa Y:Nat),c=[ι y.id,ι y.layer,y.key,y.pk.mr,υ y.pk.ty,φ y.pk.sq,ω y.pk.st,ω y.pk.sc,δ H G d,y.pk.has,φ y.pk.pr,δ I N J,δ U aa Y]) (x:List Value) (ak:x.length=13/\ ∀u∈x,u.oneCell'=ό):
  ∃(y:ItS) (H I U:Option Addr) (G d N J aa Y:Nat),(y.id=if q.length<room then 0 else (q.head?.map idN).getD 0)/\
  ∀w,qU 13 327 253 w R A room f q ad ab ac O css->Calls prog 196 #[γ R,θ x.toArray] w λe w'=>e= .returned (.tuple #[θ #[ι y.id,ι y.layer,y.key,y.pk.mr,υ y.pk.ty,φ y.pk.sq,ω y.pk.st,ω y.pk.sc,δ H G d,y.pk.has,φ y.pk.pr,δ I N J,δ U aa Y],(decide (¬q.length<room)),ι 0])/\
   (∃f' ae ah css',qU 13 327 253 w' R A room f' (kf room q x) ae ab ah O css')/\qk (RgB R A) w w':=by
 by_cases hq:q.length<room
 ·refine⟨⟨0,0,ύ,pk0⟩,ϋ,ϋ,ϋ,0,0,0,0,0,0,by rw[ϒ hq],λw h=> ?_⟩;have af:decide (¬q.length<room)=ύ:=by simp[hq]
  have ag:kf room q x=q++[x]:=by unfold kf;rw[ϒ hq]
  rw[af,ag];refine(Wz w R A room f q ad ab ac O css h hq x ak).mono ?_;rintro e w' ⟨rfl,⟨ae,g⟩,a⟩;exact⟨rfl,⟨_,_,_,_,g⟩,a⟩
 ·have an:=ai.fits;have ao:=ai.pos;cases q with
  | nil=>simp at hq;omega
  | cons c T=>
   obtain⟨y,H,I,U,G,d,N,J,aa,Y,aj⟩:=al c η;refine⟨y,H,I,U,G,d,N,J,aa,Y,by rw[ώ hq,aj];rfl,λw h=> ?_⟩;have af:decide (¬(c::T).length<room)=ό:=by simpa using hq
   have ag:kf room (c::T) x=T++[x]:=by unfold kf;rw[ώ hq];rfl
   rw[af,ag];refine(WA w R A room f c T ad ab ac O css h τ x ak).mono ?_;rintro e w' ⟨rfl,⟨ae,ah,g⟩,a⟩;exact⟨by rw[aj],⟨_,_,_,_,g⟩,a⟩
def Jm (h:LnX N w k vo s) (x:ItS) (os I J:Option Addr) (G ke d:Nat) (aj:PkS w (δ os x.pk.ss.length G) (δ I x.pk.ex.length ke) (δ J x.pk.pl.length d) x.pk) (ak:gG x.pk) (n:Int)
  (ao:(je x.layer=ύ/\n=1)∨(je x.layer=ό/\jD x.pk=ύ/\n=1)∨(je x.layer=ό/\jD x.pk=ό/\s.gone=ό/\n=7)∨(je x.layer=ό/\jD x.pk=ό/\s.gone=ύ/\s.wanted=ύ/\n=5)):
  Calls prog 136 #[γ k.L,(Γj x os G I ke J d)] w λe w'=>e= .returned (.tuple #[ι 0,ύ,ι n])/\qh w w':=by
 have aa:Hid (∀w',qh w w'->Calls prog 92 #[(Γh x.pk os G I ke J d)] w' λe w''=>e= .returned (μ (jD x.pk))/\qh w' w''):=κ λw' m=>gX x.pk _ _ _ w' (aj.keep m) ak
 have ae:=κ λ(w':World) (m:qh w w')=>Qy (h.on m)
 have am:=κ h;clear h aj ak;rcases ao with ⟨O,rfl⟩ | ⟨O,Y,rfl⟩ | ⟨O,Y,ac,rfl⟩ | ⟨O,Y,ac,al,rfl⟩
 ·have ab:=κ O;clear O
  go_enter func136,ntmps136
  go_wp2_with (first | (go_at_call 151;(go_call zp x.layer _ as e w1 ⟨rfl,ai⟩;subst w1;rw[ab.o])) | (refine vh (.load 63 (.tmp 15)) rfl ?_;refine xI rfl 63 (.tmp 15) rfl w.heap.size 3 rfl (Γh x.pk os G I ke J d) _ (kW (qp w (.cells (Γj x os G I ke J d) 253))) underlying63 rfl ξ ?_) | (go_at_call 92;(go_call aa.o _ Z0 as e w2 ⟨rfl,H⟩;have U:Hid (qh w w2):=κ (Z0.trans H);have ah:=κ (qj H (qp w (.cells (Γj x os G I ke J d) 253)));clear H)))
  refine bodyPost_ret (v:= .tuple #[ι 0,ύ,ι 1]) (by simp[results,results136,go_sem]) rfl ?_;exact⟨rfl,ρ⟩
 ·have ab:=κ O;rw[Y] at aa;clear O Y
  go_enter func136,ntmps136
  go_wp2_with (first | (go_at_call 151;(go_call zp x.layer _ as e w1 ⟨rfl,ai⟩;subst w1;rw[ab.o])) | (refine vh (.load 63 (.tmp 15)) rfl ?_;refine xI rfl 63 (.tmp 15) rfl w.heap.size 3 rfl (Γh x.pk os G I ke J d) _ (kW (qp w (.cells (Γj x os G I ke J d) 253))) underlying63 rfl ξ ?_) | (go_at_call 92;(go_call aa.o _ Z0 as e w2 ⟨rfl,H⟩;have U:Hid (qh w w2):=κ (Z0.trans H);have ah:=κ (qj H (qp w (.cells (Γj x os G I ke J d) 253)));clear H)))
  refine bodyPost_ret (v:= .tuple #[ι 0,ύ,ι 1]) (by simp[results,results136,go_sem]) rfl ?_;exact⟨rfl,U.o⟩
 ·have ab:=κ O;rw[Y] at aa;rw[ac] at ae;clear O Y ac
  go_enter func136,ntmps136
  go_wp2_with (first | (go_at_call 151;(go_call zp x.layer _ as e w1 ⟨rfl,ai⟩;subst w1;rw[ab.o])) | (refine vh (.load 63 (.tmp 15)) rfl ?_;refine xI rfl 63 (.tmp 15) rfl w.heap.size 3 rfl (Γh x.pk os G I ke J d) _ (kW (qp w (.cells (Γj x os G I ke J d) 253))) underlying63 rfl ξ ?_) | (go_at_call 92;(go_call aa.o _ Z0 as e w2 ⟨rfl,H⟩;have U:Hid (qh w w2):=κ (Z0.trans H);have ah:=κ (qj H (qp w (.cells (Γj x os G I ke J d) 253)));clear H)) | (go_at_call 69;(go_call ae.o _ U.o as e ag ⟨rfl,ad⟩;have af:Hid (qh w ag):=κ (U.o.trans ad);clear ad)))
  refine bodyPost_ret (v:= .tuple #[ι 0,ύ,ι 7]) (by simp[results,results136,go_sem]) rfl ?_;exact⟨rfl,af.o⟩
 ·have ab:=κ O;rw[Y] at aa;rw[ac] at ae;have an:=κ al;clear O Y ac al
  go_enter func136,ntmps136
  go_wp2_with (first | (go_at_call 151;(go_call zp x.layer _ as e w1 ⟨rfl,ai⟩;subst w1;rw[ab.o])) | (refine vh (.load 63 (.tmp 15)) rfl ?_;refine xI rfl 63 (.tmp 15) rfl w.heap.size 3 rfl (Γh x.pk os G I ke J d) _ (kW (qp w (.cells (Γj x os G I ke J d) 253))) underlying63 rfl ξ ?_) | (go_at_call 92;(go_call aa.o _ Z0 as e w2 ⟨rfl,H⟩;have U:Hid (qh w w2):=κ (Z0.trans H);have ah:=κ (qj H (qp w (.cells (Γj x os G I ke J d) 253)));clear H)) | (go_at_call 69;(go_call ae.o _ U.o as e ag ⟨rfl,ad⟩;have af:Hid (qh w ag):=κ (U.o.trans ad);clear ad;have c4:ag.cell? ⟨k.L,4,ϋ⟩=ϊ (μ ύ):=(by rw[<-an.o];exact qi (qj af.o am.o.blk) 4 rfl))))
  refine bodyPost_ret (v:= .tuple #[ι 0,ύ,ι 5]) (by simp[results,results136,go_sem]) rfl ?_;exact⟨rfl,af.o⟩
def Wt (h:LnX N w k vo s) (x:ItS) (os ac Y:Option Addr) (ah ke O:Nat) (be:PkS w (δ os x.pk.ss.length ah) (δ ac x.pk.ex.length ke) (δ Y x.pk.pl.length O) x.pk) (ag:ud x.pk) (bj:gG x.pk)
  (bQ:je x.layer=ό) (bf:jD x.pk=ό) (bK:s.gone=ύ) (bR:s.wanted=ό):
  Calls prog 136 #[γ k.L,(Γj x os ah ac ke Y O)] w λe w'=>e= .returned (.tuple #[ι (if s.A.length<s.room then 0 else (s.A.head?.map (·.id)).getD 0),(decide (¬s.A.length<s.room)),ι 0])/\
   LnX (xy N w w') w' k vo {s with A:=if s.A.length<s.room then s.A++[x] else s.A.tail++[x]}/\qk N w w':=by
 have cd:Hid (∀w',qh w w'->Calls prog 92 #[(Γh x.pk os ah ac ke Y O)] w' λe w''=>e= .returned (μ ό)/\qh w' w''):=κ λw' m=>by have:=gX x.pk _ _ _ w' (be.keep m) bj;rw[bf] at this;exact this
 have bX:Hid (∀(w':World),qh w w'->Calls prog 69 #[γ k.L] w' λe w''=>e= .returned (μ ύ)/\qh w' w''):=κ λw' m=>by have:=Qy (h.on m);rw[bK] at this;exact this
 have cf:=κ bQ;have ca:=κ bf;have cg:=κ bR;have I:=κ h;have aJ:=κ be;have ai:=κ bj;have bY:=κ ag;have bx:=κ h.dist;obtain⟨cG,bi⟩:=ν ((if s.A.length<s.room then 0 else (s.A.head?.map (·.id)).getD 0));obtain⟨cF,bh⟩:=ν (decide (¬s.A.length<s.room));obtain⟨dl,bg⟩:=ν ((if s.A.length<s.room then s.A++[x] else s.A.tail++[x]));rw[bi,bh,bg];have ce:=κ bi;have cc:=κ bh;have cb:=κ bg;clear bi bh bg h be bj ag bQ bf bK bR
 go_enter func136,ntmps136
 go_wp2_with (first | (go_at_call 151;(go_call zp x.layer _ as e w1 ⟨rfl,cx⟩;subst w1;rw[cf.o])) | (refine vh (.load 63 (.tmp 15)) rfl ?_;refine xI rfl 63 (.tmp 15) rfl w.heap.size 3 rfl (Γh x.pk os ah ac ke Y O) _ (kW (qp w (.cells (Γj x os ah ac ke Y O) 253))) underlying63 rfl ξ ?_) | (go_at_call 92;(go_call cd.o _ Z0 as e w2 ⟨rfl,bm⟩;have bz:Hid (qh w w2):=κ (Z0.trans bm);have cl:=κ (qj bm (qp w (.cells (Γj x os ah ac ke Y O) 253)));clear bm)) | (go_at_call 69;(go_call bX.o _ bz.o as e ay ⟨rfl,bn⟩;have aL:Hid (qh w ay):=κ (bz.o.trans bn);have aR:=κ (qj bn cl.o);clear bn;have c4:ay.cell? ⟨k.L,4,ϋ⟩=ϊ (μ ό):=(by rw[<-cg.o];exact qi (qj aL.o I.o.blk) 4 rfl);have cM:ay.cell? ⟨w.heap.size,8,ϋ⟩=ϊ (δ os x.pk.ss.length ah):=qi aR.o 8 rfl)) | (go_at_call 49;(go_call Ch _ x.pk.ss ay (aJ.o.s.keep aL.o) ai.o.s as e w4 ⟨⟨v4,rfl,bp⟩,bo⟩;have aq:=κ bp;have bA:Hid (qh w w4):=κ (aL.o.trans bo);have av:=κ (qj bo aR.o);obtain⟨aa,U,rfl⟩:=yd bp;clear bp bo;have cM:w4.cell? ⟨w.heap.size,8,ϋ⟩=ϊ (δ os x.pk.ss.length ah):=qi av.o 8 rfl;have ds:w4.frozen? ⟨w.heap.size,8,ϋ⟩=ύ:=ql av.o 8;have cK:w4.cell? ⟨w.heap.size,11,ϋ⟩=ϊ (δ ac x.pk.ex.length ke):=qi av.o 11 rfl)) | (go_at_call 50;((with_reducible refine(Jk (δ ac x.pk.ex.length ke) x.pk.ex (w4.setCell ⟨w.heap.size,8,ϋ⟩ (δ aa x.pk.ss.length U)) (aJ.o.e.keep (bA.o.st (ϕ _) _)) ai.o.e).mono ?_);rintro e w5 ⟨⟨v5,rfl,bq⟩,aE⟩;have ar:=κ bq;have bB:Hid (qh w w5):=κ ((bA.o.st (ϕ _) _).trans aE);have bC:Hid (qk (λb=>b=w.heap.size) w4 w5):=κ (((qk.refl (λb=>b=w.heap.size) w4).set (p:=⟨w.heap.size,8,ϋ⟩) rfl _).more aE);have aw:Hid (w5.heap[w.heap.size]? =ϊ (.cells (Γj x aa U ac ke Y O) 253 (0,0))):=κ (qj aE (qF (qt av.o 8 _) rfl));obtain⟨ad,ab,rfl⟩:=yd bq;clear bq aE;have cK:w5.cell? ⟨w.heap.size,11,ϋ⟩=ϊ (δ ac x.pk.ex.length ke):=qi aw.o 11 rfl;have dp:w5.frozen? ⟨w.heap.size,11,ϋ⟩=ύ:=ql aw.o 11;have cL:w5.cell? ⟨w.heap.size,12,ϋ⟩=ϊ (δ Y x.pk.pl.length O):=qi aw.o 12 rfl)) | (go_at_call 50;((with_reducible refine(Jk (δ Y x.pk.pl.length O) x.pk.pl (w5.setCell ⟨w.heap.size,11,ϋ⟩ (δ ad x.pk.ex.length ab)) (aJ.o.l.keep (bB.o.st (ϕ _) _)) ai.o.l).mono ?_);rintro e w6 ⟨⟨dm,rfl,bs⟩,aF⟩;have au:=κ bs;have ci:Hid (qh w w6):=κ ((bB.o.st (ϕ _) _).trans aF);have aN:Hid (qk (λb=>b=w.heap.size) w5 w6):=κ (((qk.refl (λb=>b=w.heap.size) w5).set (p:=⟨w.heap.size,11,ϋ⟩) rfl _).more aF);have aS:Hid (w6.heap[w.heap.size]? =ϊ (.cells (Γj x aa U ad ab Y O) 253 (0,0))):=κ (qj aF (qF (qt aw.o 11 _) rfl));obtain⟨af,ae,rfl⟩:=yd bs;clear bs aF;have cL:w6.cell? ⟨w.heap.size,12,ϋ⟩=ϊ (δ Y x.pk.pl.length O):=qi aS.o 12 rfl;have dq:w6.frozen? ⟨w.heap.size,12,ϋ⟩=ύ:=ql aS.o 12)))
 obtain⟨W7,ax⟩:=ν (w6.setCell ⟨w.heap.size,12,ϋ⟩ (δ af x.pk.pl.length ae));have aA:Hid (qk (λb=>b=w.heap.size) w6 W7):=κ (by rw[<-ax];exact(qk.refl (λb=>b=w.heap.size) w6).set (p:=⟨w.heap.size,12,ϋ⟩) rfl _);have aM:Hid (qh w W7):=κ (by rw[<-ax];exact ci.o.st (ϕ _) _);have cm:Hid (W7.heap[w.heap.size]? =ϊ (.cells (Γj x aa U ad ab af ae) 253 (0,0))):=κ (by rw[<-ax];exact qF (qt aS.o 12 _) rfl);rw[ax];clear ax;have bv:=κ (qj aM.o I.o.blk);have di:w.heap.size<ay.heap.size:=qq aR.o;have dj:w.heap.size<w4.heap.size:=qq av.o;have dk:w.heap.size<w5.heap.size:=qq aw.o;have df:w4.heap.size<=w5.heap.size:=bC.o.size;have dg:w5.heap.size<=w6.heap.size:=aN.o.size;have dh:w6.heap.size<=W7.heap.size:=aA.o.size;have cj:Hid (SlI .u32 W7 (δ aa x.pk.ss.length U) x.pk.ss):=κ ((SlI.of_owns aq.o (by have:=ai.o.s;omega)).off (λb e H=>by have:=uP aq.o e;omega) ((bC.o.trans aN.o).trans aA.o));have ck:Hid (SlI .u8 W7 (δ ad x.pk.ex.length ab) x.pk.ex):=κ ((SlI.of_owns ar.o (by have:=ai.o.e;omega)).off (λb e H=>by have:=uP ar.o e;simp at this;omega) (aN.o.trans aA.o));have S6:Hid (SlI .u8 W7 (δ af x.pk.pl.length ae) x.pk.pl):=κ ((SlI.of_owns au.o (by have:=ai.o.l;omega)).off (λb e H=>by have:=uP au.o e;simp at this;omega) aA.o);have aO:Hid (∀b,(δ aa x.pk.ss.length U).ownBlock=ϊ b->w.heap.size<=b/\b<W7.heap.size):=κ λb e=>by
  have aD:=uP aq.o e;have bH:=V0 aq.o e;omega
 have aP:Hid (∀b,(δ ad x.pk.ex.length ab).ownBlock=ϊ b->w.heap.size<=b/\b<W7.heap.size):=κ λb e=>by
  have aD:=uP ar.o e;have bH:=V0 ar.o e;simp at aD;omega
 have aQ:Hid (∀b,(δ af x.pk.pl.length ae).ownBlock=ϊ b->w.heap.size<=b/\b<W7.heap.size):=κ λb e=>by
  have aD:=uP au.o e;have bH:=V0 au.o e;simp at aD;omega
 clear aq ar au;obtain⟨cy,aG,co,bE,cn,bD,cp,aC,aB⟩:=I.o.r1;have bu:=κ aB;have bP:aG.length=s.A.length:=aB.len;have cU:k.R1<w.heap.size:=qq aC.ring;have cS:k.A1<w.heap.size:=qq aC.row;have ap:=κ (aC.more aM.o);obtain⟨y,aV,aX,ba,aU,aT,aZ,aY,bc,bb,bM,bN⟩:=DB W7 k.R1 k.A1 s.room cy aG co bE cn bD cp ap.o (Uq aB) (Γj x aa U ad ab af ae) ⟨rfl,by simp[Value.oneCell']⟩;have aK:=κ bN;have bZ:=κ bM;clear bN bM aC aB;generalize bJ:decide (¬aG.length<s.room)=dr at aK;have bW:=κ bJ;clear bJ;have bS: ¬RgB k.R1 k.A1 k.L:=by
  obtain⟨⟨cq,cr,ct,cu,cv,cw⟩,_⟩:=bx.o;rintro(e | e)<;>omega
 have cE: ¬RgB k.R1 k.A1 w.heap.size:=by rintro(e | e)<;>omega
 go_cut [7,8,9] from 45 (λcH cI cJ bt=> ∃C,cH= γ C/\cI= μ dr/\cJ= ι 0/\bt.heap[C]? =ϊ (.cells #[ι y.id,ι y.layer,y.key,y.pk.mr,υ y.pk.ty,φ y.pk.sq,ω y.pk.st,ω y.pk.sc,δ aV aU aT,y.pk.has,φ y.pk.pr,δ aX aZ aY,δ ba bc bb] 253 (0,0))/\qk (RgB k.R1 k.A1) W7 bt/\ ∃an ak aj am,qU 13 327 253 bt k.R1 k.A1 s.room an (kf s.room aG (Γj x aa U ad ab af ae)) ak bE aj bD am)
 case first=>
  have cN: ∀z:qC (RgB k.R1 k.A1) W7,z.w'.cell? ⟨k.L,1,ϋ⟩=ϊ (π (ϊ ⟨k.R1,0,ϋ⟩)):=λz=>qi (z.h.blk bv.o bS) 1 rfl
  have ch: ∀z:qC (RgB k.R1 k.A1) W7,z.w'.rangeAt w.heap.size 0 (Γj x aa U ad ab af ae):=λz=>jQ (z.h.blk cm.o cE)
  refine gm (RgB k.R1 k.A1) W7 14 (.op 0 ύ (.op 1 ύ (.op 2 ύ (.op 3 ύ (.op 4 ύ (.br [5,10] λk=>if k=5 then .op 6 ύ (.op 7 ύ (.op 8 ύ (.op 9 ύ (.op 10 ό (.op 11 ό (.op 12 ύ (.op 13 ύ (.done)))))))) else .op 5 ό (.op 6 ύ (.op 7 ύ (.op 8 ύ (.op 9 ύ (.op 11 ό (.op 12 ύ (.op 13 ύ (.done)))))))))))))) ξ ξ ?_
  iterate 4 (refine qK rfl rfl (qn σ) ?_;intro K d;go_big_quiet_op;go_big_quiet_on)
  refine JI rfl rfl (qn σ) 253 (.tmp 3) rfl w.heap.size 0 rfl (Γj x aa U ad ab af ae) _ (λw' cC=>by obtain⟨z,rfl⟩:=cC;exact ch z) underlying253 rfl ξ ?_;intro K d;go_simp;refine d _ ?_;clear d K;refine gK ζ ?_ ?_
  ·(refine qV rfl rfl ?_;intro K d;unfold jt;go_simp)
   go_call aK.o _ (ap.o.more (qh.drewN W7 1)) as e w9 ⟨rfl,J,a9⟩;have G:Hid (qk (RgB k.R1 k.A1) W7 w9):=κ (((qk.refl _ _).drewN 1).trans a9);have aI:=κ J;clear a9 J;refine⟨_,rfl,qn G.o,d _ _ ?_⟩;clear d K
   repeat (first | (refine jl rfl rfl (qn G.o) ?_) | (refine qK rfl rfl (qn G.o) ?_;intro K d;go_big_quiet_op;go_big_quiet_on))
   (refine qV rfl rfl ?_;intro K d;unfold jt;go_simp)
   refine⟨qn (G.o.alc _),d _ _ ?_⟩;clear d K;refine qV rfl rfl ?_;intro K d;refine jw 253 (.tmp 7) (.tmp 52) rfl w9.heap.size 253 _ #[ι y.id,ι y.layer,y.key,y.pk.mr,υ y.pk.ty,φ y.pk.sq,ω y.pk.st,ω y.pk.sc,δ aV aU aT,y.pk.has,φ y.pk.pr,δ aX aZ aY,δ ba bc bb] rfl rfl (qp w9 _) ξ rfl (all_oneCell_toArray Z5) ?_;refine⟨qn ((G.o.alc _).rowNew G.o.size _), ?_⟩;go_simp;refine d _ _ ?_;clear d K
   repeat (first | (refine jl rfl rfl (qn ((G.o.alc _).rowNew G.o.size _)) ?_) | (refine qK rfl rfl (qn ((G.o.alc _).rowNew G.o.size _)) ?_;intro K d;go_big_quiet_op;go_big_quiet_on))
   refine zD ?_;go_wp2;go_meet;obtain⟨an,ak,aj,am,J⟩:=aI.o;refine⟨_,rfl,rfl,rfl,xh (qp w9 _) _,(G.o.alc _).rowNew G.o.size _,an,ak,aj,am,(J.more Z0).away (xt _ _ _) ?_ ?_⟩
   ·have:=qq J.ring;omega
   ·have:=qq J.row;omega
  ·(refine qV rfl rfl ?_;intro K d;unfold jt;go_simp)
   refine⟨qn (((qk.refl _ W7).drewN 1).alc _),d _ _ ?_⟩;clear d K
   (refine qV rfl rfl ?_;intro K d;unfold jt;go_simp)
   go_call aK.o _ (ap.o.more ((qh.drewN W7 1).al _)) as e w9 ⟨rfl,J,a9⟩;have G:Hid (qk (RgB k.R1 k.A1) W7 w9):=κ ((((qk.refl _ _).drewN 1).alc _).trans a9);have aI:=κ J;have cV:k.R1<W7.heap.size:=qq ap.o.ring;have cT:k.A1<W7.heap.size:=qq ap.o.row;have bw:Hid (w9.heap[W7.heap.size]? =ϊ (.cells Γa 253 (0,0))):=κ (a9.blk (qH rfl) Xaa);clear a9 J;refine⟨_,rfl,qn G.o,d _ _ ?_⟩;clear d K
   repeat (first | (refine jl rfl rfl (qn G.o) ?_) | (refine qK rfl rfl (qn G.o) ?_;intro K d;go_big_quiet_op;go_big_quiet_on))
   refine qV rfl rfl ?_;intro K d;refine jw 253 (.tmp 7) (.tmp 52) rfl W7.heap.size 253 _ #[ι y.id,ι y.layer,y.key,y.pk.mr,υ y.pk.ty,φ y.pk.sq,ω y.pk.st,ω y.pk.sc,δ aV aU aT,y.pk.has,φ y.pk.pr,δ aX aZ aY,δ ba bc bb] rfl rfl bw.o ξ rfl (all_oneCell_toArray Z5) ?_;refine⟨qn (G.o.rowNew (ϕ _) _), ?_⟩;go_simp;refine d _ _ ?_;clear d K
   repeat (first | (refine jl rfl rfl (qn (G.o.rowNew (ϕ _) _)) ?_) | (refine qK rfl rfl (qn (G.o.rowNew (ϕ _) _)) ?_;intro K d;go_big_quiet_op;go_big_quiet_on))
   refine zD ?_;go_wp2;go_meet;obtain⟨an,ak,aj,am,J⟩:=aI.o;exact⟨_,rfl,rfl,rfl,xh bw.o _,G.o.rowNew (ϕ _) _,an,ak,aj,am,J.away (xt _ _ _) τ τ⟩
 case rest=>
 obtain⟨C,rfl,rfl,rfl,bF,aW,an,ak,aj,am,bG⟩:=hcut;have ao:=κ aW;have bV:=κ bG;have bU:Hid (wc.heap[k.L]? =ϊ (.cells (j9 k vo s) 153 (0,0))):=κ (aW.blk bv.o bS);have dn:wc.cell? ⟨C,0,ϋ⟩=ϊ (ι y.id):=qi bF 0 rfl;clear aW bG bF;go_wp2;refine bodyPost_ret (v:= .tuple #[ι y.id,dr,ι 0]) (by simp[results,results136,go_sem]) rfl ?_;obtain⟨⟨cq,cr,ct,cu,cv,cw⟩,⟨cx,cO,cP,cQ,cR⟩,⟨cW,cX,cY,cZ⟩,⟨da,db,dc⟩,⟨dd,de⟩,_⟩:=bx.o;have aH:qk (RgB k.R1 k.A1) w wc:=(qk.of_more aM.o).trans ao.o;have bL: ∀b,RgB k.R1 k.A1 b->k.muts b:=λb H=>ϓ (ϐ H)
 have az:qk k.muts w wc:=aH.mono bL;have bT:qk (lnM k vo) w wc:=az.mono λb H=>ϐ H
 have bk: ∀b,vo.ownBlock=ϊ b->vo.ownBlock=ϊ b∨w.heap.size<=b:=λb H=>ϐ H
 have bI: ∀b,RgB k.R1 k.A1 b->lnE N k vo b:=λb H=>uD (bL b H)
 have ag:=I.o.ok;have bl:W7.heap.size<=wc.heap.size:=ao.o.size;have bd: ∀b,w.heap.size<=b-> ¬RgB k.R1 k.A1 b:=λb H e=>by rcases e with e | e<;>omega
 have cz:jv RIt (lnE (xy N w wc) k vo) wc (Γj x aa U ad ab af ae) x:=λw'' a=>by
  refine⟨_,_,_,rfl,⟨?_, ?_, ?_⟩,bY.o,ca.o⟩
  ·exact I.o.fresh (vo':=vo) (cj.o.off (λb e=>bd b (aO.o b e).1) ao.o) (λb e=>⟨(aO.o b e).1,ϗ (aO.o b e).2 bl⟩) (λb e=>e) a
  ·exact I.o.fresh (vo':=vo) (ck.o.off (λb e=>bd b (aP.o b e).1) ao.o) (λb e=>⟨(aP.o b e).1,ϗ (aP.o b e).2 bl⟩) (λb e=>e) a
  ·exact I.o.fresh (vo':=vo) (S6.o.off (λb e=>bd b (aQ.o b e).1) ao.o) (λb e=>⟨(aQ.o b e).1,ϗ (aQ.o b e).2 bl⟩) (λb e=>e) a
 have bO:=BQ (R:=RIt) (D:=lnE (xy N w wc) k vo) (w:=wc) (room:=s.room) (bu.o.mono λc y cD=>I.o.held cD bT bk) cz;have cA:y.id=cG:=by rw[bZ.o,bP,WO bu.o];exact ce.o
 have cB:dr=cF:=by rw[<-bW.o,bP];exact cc.o
 rw[cb.o] at bO;rw[<-cA,<-cB];exact⟨rfl,I.o.make az.size bU.o ⟨_,_,_,_,_,_,_,bV.o,bO⟩ (I.o.r2.step aH Xaa Xaa bI λb H=>ϐ (xT I.o.own bk H)) (I.o.r3.step aH Xaa Xaa bI λb H=>ϐ (xT I.o.own bk H)) (I.o.rows az) ⟨ag.most,ag.row,ag.lt,ag.sq,ag.src⟩,az.mono λb H=>I.o.muts b H⟩
def Mj (h:LnX N w k vo s) (x:ItS) (os I J:Option Addr) (H ke G:Nat) (U:PkS w (δ os x.pk.ss.length H) (δ I x.pk.ex.length ke) (δ J x.pk.pl.length G) x.pk) (ab:ud x.pk) (Y:gG x.pk):
  Calls prog 136 #[γ k.L,(Γj x os H I ke J G)] w λe w'=>e= .returned (.tuple #[ι (jL s x).2.1,μ (jL s x).2.2.1,ι (jL s x).2.2.2])/\LnX (xy N w w') w' k vo (jL s x).1/\qk N w w':=by
 by_cases h1:(je x.layer&&jD x.pk)=ύ
 ·have e:jL s x=(s,0,ύ,1):=by unfold jL;rw[ϒ h1]
  rw[e];refine(Jm h x os I J H ke G U Y 1 ?_).mono ?_
  ·cases d:je x.layer with
   | false=>exact ϐ ⟨rfl,rfl⟩
   | true=>rw[d] at h1;exact ϓ (ϐ ⟨rfl,by simpa using h1,rfl⟩)
  ·rintro e w' ⟨rfl,m⟩;exact⟨rfl,h.grow m,qk.of_more m⟩
 ·have d:je x.layer=ό/\jD x.pk=ό:=by simpa using h1
  cases hg:s.gone with
  | true=>
   have e:jL s x=(s,0,ύ,7):=by unfold jL;rw[ώ h1,ϒ hg]
   rw[e];refine(Jm h x os I J H ke G U Y 7 (ϓ (ϓ (ϐ ⟨d.1,d.2,hg,rfl⟩)))).mono ?_;rintro e w' ⟨rfl,m⟩;exact⟨rfl,h.grow m,qk.of_more m⟩
  | false=>
   cases hw:s.wanted with
   | false=>
    have e:jL s x=(s,0,ύ,5):=by unfold jL;rw[ώ h1,ώ (by rw[hg];decide),ϒ hw]
    rw[e];refine(Jm h x os I J H ke G U Y 5 (ϓ (ϓ (ϓ ⟨d.1,d.2,hg,hw,rfl⟩)))).mono ?_;rintro e w' ⟨rfl,m⟩;exact⟨rfl,h.grow m,qk.of_more m⟩
   | true=>
    have e:jL s x=((vf s x).1,(vf s x).2.1,(vf s x).2.2,0):=by unfold jL;rw[ώ h1,ώ (by rw[hg];decide),ώ (by rw[hw];decide)]
    rw[e];have O:=Wt h x os I J H ke G U ab Y d.1 d.2 hg hw;by_cases hc:s.A.length<s.room
    ·have aa:vf s x=({s with A:=s.A++[x]},0,ύ):=by unfold vf;rw[ϒ hc]
     rw[aa];simp only[hc,Ψ,not_true,decide_false] at O;exact O
    ·have aa:vf s x=({s with A:=s.A.tail++[x]},(s.A.head?.map (·.id)).getD 0,ό):=by unfold vf;rw[ώ hc]
     rw[aa];simp only[hc,C4,not_false_iff,decide_true] at O;exact O
def Jn {d n m:Nat} (h:w.ownsRow base e n v m xs) (I:d<=base):w.ownsRow d e n v m xs:=by
 obtain⟨G,H⟩:=h;refine⟨G, ?_⟩;rcases H with h | ⟨b,cap,cur,e1,hb1,rest⟩
 ·exact ϐ h
 ·exact ϓ ⟨b,cap,cur,e1,ϙ I hb1,rest⟩
def Gq {d:Nat->Prop} {w1 w2:World} (G:w.heap.size<=w1.heap.size) (H:w1.heap.size<=w2.heap.size):xy (xy d w w1) w1 w2=xy d w w2:=by
 funext b
 apply propext;unfold xy;constructor
 ·rintro((e | e) | e)
  ·exact ϐ e
  ·exact ϓ ⟨e.1,τ⟩
  ·exact ϓ ⟨τ,e.2⟩
 ·rintro(e | e)
  ·exact ϐ (ϐ e)
  ·by_cases h:b<w1.heap.size
   ·exact ϐ (ϓ ⟨e.1,h⟩)
   ·exact ϓ ⟨τ,e.2⟩
def jd.widen {α:Type} {n:Nat} {R:qO α} {D':Nat->Prop} {L:List α} (h:jd n R D w base e v L) (k: ∀b,D' b->D b∨w.heap.size<=b):jd n R D' w base e v L:=by
 have I:=λ{b} (d:v.ownBlock=ϊ b)=>h.lt d
 obtain⟨⟨xs,o,r⟩,G⟩:=h;refine⟨⟨xs,o,λi hi=>(r i hi).other λb d=> ?_⟩,λb d H=> ?_⟩
 ·rcases d with e | e
  ·rcases k b e with e | e
   ·exact ϐ (ϐ e)
   ·exact ϓ e
  ·exact ϐ (ϓ e)
 ·rcases k b H with e | e
  ·exact G b d e
  ·have:=I d;omega
def YG (a:zR (jv RIt D w) q l):q.map idN=l.map (·.id)/\ ∀c∈q,∃i r,c= ι i::r/\r.length=12:=by
 induction l generalizing q with
 | nil=>rw[a.nil_r];exact⟨rfl,λc d=>by simp at d⟩
 | cons y l ih=>
  obtain⟨c,q',rfl,I,a'⟩:=a.uncons;obtain⟨G,H⟩:=ih a';obtain⟨N,J,vp,rfl,_⟩:=I.read;refine⟨by rw[ϡ,ϡ,G];rfl,λc d=> ?_⟩;rcases ϫ.1 d with rfl | d
  ·exact⟨_,_,rfl,rfl⟩
  ·exact H c d
def KS {l:List (ItS×Bool)} (a:zR (jv RCh D w) q l):q.map idN=l.map (·.1.id)/\ ∀c∈q,∃i r,c= ι i::r/\r.length=13:=by
 induction l generalizing q with
 | nil=>rw[a.nil_r];exact⟨rfl,λc d=>by simp at d⟩
 | cons y l ih=>
  obtain⟨c,q',rfl,I,a'⟩:=a.uncons;obtain⟨G,H⟩:=ih a';obtain⟨N,J,vp,rfl,_⟩:=I.read;refine⟨by rw[ϡ,ϡ,G];rfl,λc d=> ?_⟩;rcases ϫ.1 d with rfl | d
  ·exact⟨_,_,rfl,rfl⟩
  ·exact H c d
def Km {l:List (Int×List Int)} (a:zR (jv ROu D w) q l):q.map idN=l.map (·.1)/\ ∀c∈q,∃i r,c= ι i::r/\r.length=1:=by
 induction l generalizing q with
 | nil=>rw[a.nil_r];exact⟨rfl,λc d=>by simp at d⟩
 | cons y l ih=>
  obtain⟨c,q',rfl,I,a'⟩:=a.uncons;obtain⟨G,H⟩:=ih a';obtain⟨v,rfl,_⟩:=I.read;refine⟨by rw[ϡ,ϡ,G];rfl,λc d=> ?_⟩;rcases ϫ.1 d with rfl | d
  ·exact⟨_,_,rfl,rfl⟩
  ·exact H c d
def YN (h:LnX N w k vo s):Calls prog 126 #[γ k.L,ι 1] w λe w'=>(∃v,e= .returned v/\w'.ownsRow w.heap.size 3 1 v (s.A.map (·.id)).length ((s.A.map (·.id)).map (Value.int .i64)))/\LnX (xy N w w') w' k vo {s with A:=[]}/\qk k.muts w w':=by
 have c1:w.cell? ⟨k.L,1,ϋ⟩=ϊ (π (ϊ ⟨k.R1,0,ϋ⟩)):=qi h.blk 1 rfl;have G:=κ h;have ai:=κ h.dist;obtain⟨ax,U,au,av,aq,ar,aw,H,I⟩:=h.r1;have aj:=κ H;have ao:=κ (YG I).2;have al:=κ (YG I).1;have ap:Hid (∀c∈U,∀u∈c,u.oneCell'=ό):=κ λc az=>(H.qall c az).2
 have aA:U.length<=8:=by have:=H.fits;have:=H.pos;omega
 clear h H I
 go_enter func126,ntmps126
 go_wp2_with (first | (go_at_call 180;(go_call Ng w k.R1 k.A1 s.room ax U au av aq ar aw aj.o as e w1 ⟨aB,rfl,ah,H,I⟩;have am:=κ ah;have ak:=κ H;have aa:=κ I;clear ah H I)) | (go_at_call 179;(go_call RK w1 aB U w.heap.size am.o ao.o ap.o aA as e w2 ⟨⟨aZ,rfl,o2⟩,ag⟩;have an:=κ o2;have ab:=κ ag;clear o2 ag)))
 go_ret;obtain⟨⟨aE,aF,aG,aH,aI,aJ⟩,⟨aK,aL,aM,aN,aO⟩,⟨aQ,aR,aS,aT⟩,⟨aU,aV,aW⟩,⟨aX,aY⟩,_⟩:=ai.o;have O:qk (RgB k.R1 k.A1) w w2:=aa.o.more ab.o;have ae: ∀b,RgB k.R1 k.A1 b->k.muts b:=λb d=>ϓ (ϐ d)
 have Y:qk k.muts w w2:=O.mono ae;have af: ∀b,vo.ownBlock=ϊ b->vo.ownBlock=ϊ b∨w.heap.size<=b:=λb d=>ϐ d
 have ad: ∀b,RgB k.R1 k.A1 b->lnE N k vo b:=λb d=>uD (ae b d)
 have J:=G.o.ok;obtain⟨aP,aC,aD,ay⟩:=ak.o;have ac:=Jn an.o aa.o.size;rw[al.o] at ac;exact⟨⟨_,rfl,ac⟩,G.o.make Y.size (O.blk G.o.blk Xaa) ⟨_,_,_,_,_,_,_,ay.more ab.o,trivial⟩ (G.o.r2.step O Xaa Xaa ad λb d=>ϐ (xT G.o.own af d)) (G.o.r3.step O Xaa Xaa ad λb d=>ϐ (xT G.o.own af d)) (G.o.rows Y) ⟨J.most,J.row,J.lt,J.sq,J.src⟩,Y⟩
def YM (h:LnX N w k vo s):Calls prog 126 #[γ k.L,ι 2] w λe w'=>(∃v,e= .returned v/\w'.ownsRow w.heap.size 3 1 v (s.B.map (·.1.id)).length ((s.B.map (·.1.id)).map (Value.int .i64)))/\LnX (xy N w w') w' k vo {s with B:=[]}/\qk k.muts w w':=by
 have c1:w.cell? ⟨k.L,2,ϋ⟩=ϊ (π (ϊ ⟨k.R2,0,ϋ⟩)):=qi h.blk 2 rfl;have G:=κ h;have ah:=κ h.dist;obtain⟨aw,U,ar,au,ap,aq,av,H,I⟩:=h.r2;have ai:=κ H;have an:=κ (KS I).2;have ak:=κ (KS I).1;have ao:Hid (∀c∈U,∀u∈c,u.oneCell'=ό):=κ λc ay=>(H.qall c ay).2
 have az:U.length<=8:=by have:=H.fits;have:=H.pos;omega
 clear h H I
 go_enter func126,ntmps126
 go_wp2_with (first | (go_at_call 183;(go_call Nh w k.R2 k.A2 s.room aw U ar au ap aq av ai.o as e w1 ⟨aA,rfl,ag,H,I⟩;have al:=κ ag;have aj:=κ H;have A2:=κ I;clear ag H I)) | (go_at_call 182;(go_call RL w1 aA U w.heap.size al.o an.o ao.o az as e w2 ⟨⟨aY,rfl,o2⟩,af⟩;have am:=κ o2;have aa:=κ af;clear o2 af)))
 go_ret;obtain⟨⟨aD,aE,aF,aG,aH,aI⟩,⟨aJ,aK,aL,aM,aN⟩,⟨aP,aQ,aR,aS⟩,⟨aT,aU,aV⟩,⟨aW,aX⟩,_⟩:=ah.o;have O:qk (RgB k.R2 k.A2) w w2:=A2.o.more aa.o;have ad: ∀b,RgB k.R2 k.A2 b->k.muts b:=λb d=>ϓ (ϓ (ϐ d))
 have Y:qk k.muts w w2:=O.mono ad;have ae: ∀b,vo.ownBlock=ϊ b->vo.ownBlock=ϊ b∨w.heap.size<=b:=λb d=>ϐ d
 have ac: ∀b,RgB k.R2 k.A2 b->lnE N k vo b:=λb d=>uD (ad b d)
 have J:=G.o.ok;obtain⟨aO,aB,aC,ax⟩:=aj.o;have ab:=Jn am.o A2.o.size;rw[ak.o] at ab;exact⟨⟨_,rfl,ab⟩,G.o.make Y.size (O.blk G.o.blk Xaa) (G.o.r1.step O Xaa Xaa ac λb d=>ϐ (xT G.o.own ae d)) ⟨_,_,_,_,_,_,_,ax.more aa.o,trivial⟩ (G.o.r3.step O Xaa Xaa ac λb d=>ϐ (xT G.o.own ae d)) (G.o.rows Y) ⟨J.most,J.row,J.lt,J.sq,J.src⟩,Y⟩
def YL (h:LnX N w k vo s):Calls prog 126 #[γ k.L,ι 3] w λe w'=>(∃v,e= .returned v/\w'.ownsRow w.heap.size 3 1 v (s.C.map (·.1)).length ((s.C.map (·.1)).map (Value.int .i64)))/\LnX (xy N w w') w' k vo {s with C:=[]}/\qk k.muts w w':=by
 have c1:w.cell? ⟨k.L,3,ϋ⟩=ϊ (π (ϊ ⟨k.R3,0,ϋ⟩)):=qi h.blk 3 rfl;have G:=κ h;have ai:=κ h.dist;obtain⟨ax,U,au,av,aq,ar,aw,H,I⟩:=h.r3;have aj:=κ H;have ao:=κ (Km I).2;have al:=κ (Km I).1;have ap:Hid (∀c∈U,∀u∈c,u.oneCell'=ό):=κ λc az=>(H.qall c az).2
 have aA:U.length<=8:=by have:=H.fits;have:=H.pos;omega
 clear h H I
 go_enter func126,ntmps126
 go_wp2_with (first | (go_at_call 186;(go_call Nf w k.R3 k.A3 s.room ax U au av aq ar aw aj.o as e w1 ⟨aB,rfl,ah,H,I⟩;have am:=κ ah;have ak:=κ H;have aa:=κ I;clear ah H I)) | (go_at_call 185;(go_call RJ w1 aB U w.heap.size am.o ao.o ap.o aA as e w2 ⟨⟨aZ,rfl,o2⟩,ag⟩;have an:=κ o2;have ab:=κ ag;clear o2 ag)))
 go_ret;obtain⟨⟨aE,aF,aG,aH,aI,aJ⟩,⟨aK,aL,aM,aN,aO⟩,⟨aQ,aR,aS,aT⟩,⟨aU,aV,aW⟩,⟨aX,aY⟩,_⟩:=ai.o;have O:qk (RgB k.R3 k.A3) w w2:=aa.o.more ab.o;have ae: ∀b,RgB k.R3 k.A3 b->k.muts b:=λb d=>ϓ (ϓ (ϓ d))
 have Y:qk k.muts w w2:=O.mono ae;have af: ∀b,vo.ownBlock=ϊ b->vo.ownBlock=ϊ b∨w.heap.size<=b:=λb d=>ϐ d
 have ad: ∀b,RgB k.R3 k.A3 b->lnE N k vo b:=λb d=>uD (ae b d)
 have J:=G.o.ok;obtain⟨aP,aC,aD,ay⟩:=ak.o;have ac:=Jn an.o aa.o.size;rw[al.o] at ac;exact⟨⟨_,rfl,ac⟩,G.o.make Y.size (O.blk G.o.blk Xaa) (G.o.r1.step O Xaa Xaa ad λb d=>ϐ (xT G.o.own af d)) (G.o.r2.step O Xaa Xaa ad λb d=>ϐ (xT G.o.own af d)) ⟨_,_,_,_,_,_,_,ay.more ab.o,trivial⟩ (G.o.rows Y) ⟨J.most,J.row,J.lt,J.sq,J.src⟩,Y⟩
def kz (s:LnS) (n:Int):LnS:={s with A:=if n=1 then [] else s.A,B:=if n=2 then [] else s.B,C:=if n=3 then [] else s.C}
def FD (h:LnX N w k vo s) (n:Int) (H:n=1∨n=2∨n=3):Calls prog 126 #[γ k.L,ι n] w λe w'=>(∃v,e= .returned v)/\LnX (xy N w w') w' k vo (kz s n)/\qk k.muts w w':=by
 rcases H with rfl | rfl | rfl
 ·refine(YN h).mono ?_;rintro e w' ⟨⟨v,rfl,_⟩,d,G⟩;exact⟨⟨v,rfl⟩,d,G⟩
 ·refine(YM h).mono ?_;rintro e w' ⟨⟨v,rfl,_⟩,d,G⟩;exact⟨⟨v,rfl⟩,d,G⟩
 ·refine(YL h).mono ?_;rintro e w' ⟨⟨v,rfl,_⟩,d,G⟩;exact⟨⟨v,rfl⟩,d,G⟩
def zW (g b n:Int):Int×Int:=
 if 63<n-g then (n,1) else if 0<n-g then (n,bits .or .u64 (IntKind.u64.wrap (b* 2 ^ (n-g).toNat)) 1)
 else if-63<=n-g then (g,lay b (-(n-g)) 1 1) else (g,b)
def yK (g b m:Int):Bool:=decide (m<=g/\g-m<=63)&&b.toNat.testBit (g-m).toNat
def BM (i:Nat):Nat.testBit 1 i=decide (i=0):=by
 cases i with
 | zero=>rfl
 | succ i=>simp[Nat.testBit_succ]
def BY (b:Int) (k:Nat) (H:U64 b) (O:0<k) (N:k<=63):
  U64 (bits .or .u64 (IntKind.u64.wrap (b* 2 ^ k)) 1)/\ ∀i:Nat,i<64->(bits .or .u64 (IntKind.u64.wrap (b* 2 ^ k)) 1).toNat.testBit i=(decide (i=0)||(decide (k<=i)&&b.toNat.testBit (i-k))):=by
 obtain⟨d,J⟩:=H;obtain⟨B,rfl⟩:=Θ d;have e:IntKind.u64.wrap ((B:Int)* 2 ^ k)=((B* 2 ^ k%2 ^ 64:Nat):Int):=by
  rw[IntKind.wrap_u64,G7,Int.natCast_mul];simp
 have I:B* 2 ^ k%2 ^ 64<2 ^ 64:=G6 _ ζ;have G:bits .or .u64 (IntKind.u64.wrap ((B:Int)* 2 ^ k)) 1=((B* 2 ^ k%2 ^ 64||| 1:Nat):Int):=by
  rw[e,show (1:Int)=((1:Nat):Int) from rfl,u64_or_nat _ _ τ τ]
 have U:(B* 2 ^ k%2 ^ 64||| 1)<2 ^ 64:=Nat.or_lt_two_pow I ζ;rw[G];refine⟨⟨τ,τ⟩,λi hi=> ?_⟩;rw[A7,A7,Nat.testBit_or,Nat.testBit_mod_two_pow,Nat.testBit_mul_two_pow,BM];simp only[hi,decide_true,E8];rw[Bool.or_comm]
def Jv (g b n:Int):(zW g b n).1=max g n:=by
 unfold zW;split
 ·simp;omega
 ·split
  ·simp;omega
  ·split<;>(simp;omega)
def Ky (g b n:Int) (d:U64 b):U64 (zW g b n).2:=by
 unfold zW;split
 ·exact⟨(by decide:(0:Int)<=1),(by decide:(1:Int)<=18446744073709551615)⟩
 ·split
  ·exact(BY b _ d τ τ).1
  ·split
   ·exact Ix _ _ _ _ d
   ·exact d
def Iw (b k:Int) (G:U64 b) (d:0<=k/\k<=63) (i:Nat) (hi:i<64):(lay b k 1 1).toNat.testBit i=(decide (i=k.toNat)||b.toNat.testBit i):=by
 rw[DX b k 1 1 ⟨d.1,d.2,τ,τ⟩,QW];simp only[hi,decide_true,E8];by_cases h:i=k.toNat
 ·subst h;simp
 ·rw[ώ (by simp;omega)];simp[h]
def YF (g b n m:Int) (N:U64 b):yK (zW g b n).1 (zW g b n).2 m=(decide (m<=max g n/\max g n-m<=63)&&(decide (m=n)||yK g b m)):=by
 have O:=Jv g b n;by_cases hin:m<=max g n/\max g n-m<=63
 ·rw[show yK (zW g b n).1 (zW g b n).2 m=(zW g b n).2.toNat.testBit (max g n-m).toNat from by unfold yK;rw[O];simp[hin]];simp only[hin,and_self,decide_true,E8];unfold zW;by_cases h1:63<n-g
  ·rw[ϒ h1];have e:max g n=n:=by omega
   rw[e] at *;unfold yK;by_cases d:m=n
   ·subst d;simp
   ·have:(n-m).toNat≠0:=by omega
    simp only[d,decide_false,Bool.false_or];have I: ¬(m<=g/\g-m<=63):=by omega
    simp only[I,decide_false,I1];rw[show (1:Int).toNat=1 from rfl,BM];simp;omega
  ·rw[ώ h1];by_cases I:0<n-g
   ·rw[ϒ I];have e:max g n=n:=by omega
    rw[e] at *;simp only[];rw[(BY b (n-g).toNat N τ τ).2 _ τ];unfold yK;by_cases d:m=n
    ·subst d;simp
    ·have G:(n-m).toNat≠0:=by omega
     by_cases h4:m<=g
     ·have J:(n-g).toNat<=(n-m).toNat:=by omega
      have H:m<=g/\g-m<=63:=by omega
      simp only[d,G,J,H,and_self,decide_true,decide_false,Bool.false_or,E8];rw[show (n-m).toNat-(n-g).toNat=(g-m).toNat from by omega]
     ·have J: ¬(n-g).toNat<=(n-m).toNat:=by omega
      simp[d,G,h4,J]
   ·rw[ώ I];have e:max g n=g:=by omega
    rw[e] at *;by_cases G: -63<=n-g
    ·rw[ϒ G,Iw b _ N τ _ τ];unfold yK;have H:m<=g/\g-m<=63:=by omega
     have U:decide ((g-m).toNat=(-(n-g)).toNat)=decide (m=n):=by rw[F2];simp;omega
     rw[U];simp[H]
    ·rw[ώ G];unfold yK;have d:m≠n:=by omega
     have H:m<=g/\g-m<=63:=by omega
     simp[d,H]
 ·have:yK (zW g b n).1 (zW g b n).2 m=ύ:=by
   unfold yK;rw[O];simp only[hin,decide_false,I1]
  rw[this];simp only[hin,decide_false,I1]
def Hj (g b c:Int) (H:U64 b) (I:U64 c) (h: ∀m,yK g b m=yK g c m):b=c:=by
 obtain⟨d,J⟩:=H;obtain⟨G,c1⟩:=I;obtain⟨B,rfl⟩:=Θ d;obtain⟨C,rfl⟩:=Θ G;have:B=C:=by
  apply EY τ τ;intro i hi;have:=h (g-i);unfold yK at this;have e:g-(i:Int)<=g/\g-(g-(i:Int))<=63:=by omega
  simp only[e,and_self,decide_true,E8,A7] at this
  rwa [show (g-(g-(i:Int))).toNat=i from by omega] at this
 rw[this]
def Pu {g b m:Int} (h:yK g b m=ό):m<=g/\g-m<=63:=by
 unfold yK at h;simp only[Φ,C2] at h;exact h.1
def MT (g b n:Int) (d:U64 b) (h:g-63<=n):((zW g b n).1==g&&(zW g b n).2==b)=yK g b n:=by
 have G:=Jv g b n;by_cases hle:n<=g
 ·have e:(zW g b n).1=g:=by rw[G];omega
  rw[e];simp only[BEq.rfl,E8];by_cases hk:yK g b n=ό
  ·rw[hk,beq_iff_eq];apply Hj g _ _ (Ky g b n d) d;intro m;have:=YF g b n m d;rw[e] at this;rw[this];by_cases hm:m=n
   ·subst hm;rw[hk];have:=Pu hk;simp;omega
   ·by_cases hkm:yK g b m=ό
    ·have:=Pu hkm;simp[hkm];omega
    ·simp only[Bool.not_eq_true] at hkm;simp[hm,hkm]
  ·simp only[Bool.not_eq_true] at hk;rw[hk];simp only[beq_eq_false_iff_ne,ne_eq];intro H;have:=YF g b n n d;rw[e,H,hk] at this;simp at this;omega
 ·have e:((zW g b n).1==g)=ύ:=by rw[G];simp;omega
  rw[e,I1];unfold yK;have: ¬(n<=g/\g-n<=63):=by omega
  simp[this]
def Da:prog.eqGuardType prog.depth 233=ύ:=by kernel_rfl
def YW (n:Int) (w:World):
  Calls prog 237 #[ι n] w λe w'=>e= .returned (θ #[ι n,ψ 1])/\qh w w':=by
 go_enter func237,ntmps237
 go_wp2;exact bodyPost_ret (v:= θ #[ι n,ψ 1]) (by simp[results,results237,go_sem]) rfl ⟨rfl,(qh.refl _).al _⟩
def F0 (g b n:Int) (H: -2305843009213693952<=g/\g<=2305843009213693952) (I: -2305843009213693952<=n/\n<=2305843009213693952) (O:63<n-g) (w:World):
  Calls prog 236 #[θ #[ι g,ψ b],ι n] w λe w'=>e= .returned (θ #[ι n,ψ 1])/\qh w w':=by
 obtain⟨J,N⟩:=H;obtain⟨Y,n2⟩:=I
 go_enter func236,ntmps236
 go_wp2_with (go_at_call 237;refine(YW n _).mono ?_;rintro e w1 ⟨rfl,d⟩;obtain⟨G,U⟩:=d.rules)
 refine bodyPost_ret (v:= θ #[ι n,ψ 1]) (by simp[results,results236,go_sem,G]) rfl ⟨rfl, ?_⟩;exact((((qh.refl w).al _).al _ |>.trans d).st η _).st η _
def Lo (g b n:Int) (d: -2305843009213693952<=g/\g<=2305843009213693952) (G: -2305843009213693952<=n/\n<=2305843009213693952) (J:n-g<=63) (N:0<n-g) (w:World):
  Calls prog 236 #[θ #[ι g,ψ b],ι n] w λe w'=>e= .returned (θ #[ι n,ψ (bits .or .u64 (IntKind.u64.wrap (b* 2 ^ (n-g).toNat)) 1)])/\qh w w':=by
 obtain⟨H,I⟩:=d;obtain⟨O,n2⟩:=G
 go_enter func236,ntmps236
 go_wp2;refine bodyPost_ret (v:= θ #[ι n,ψ (bits .or .u64 (IntKind.u64.wrap (b* 2 ^ (n-g).toNat)) 1)]) (by simp[results,results236,go_sem]) rfl ⟨rfl, ?_⟩;exact((qh.refl w).al _).al _
def FZ (g b n:Int) (d: -2305843009213693952<=g/\g<=2305843009213693952) (G: -2305843009213693952<=n/\n<=2305843009213693952) (J:n-g< -63) (w:World):
  Calls prog 236 #[θ #[ι g,ψ b],ι n] w λe w'=>e= .returned (θ #[ι g,ψ b])/\qh w w':=by
 obtain⟨H,I⟩:=d;obtain⟨N,n2⟩:=G
 go_enter func236,ntmps236
 go_wp2;refine bodyPost_ret (v:= θ #[ι g,ψ b]) (by simp[results,results236,go_sem]) rfl ⟨rfl, ?_⟩;exact((qh.refl w).al _).al _
def Lp (g b n:Int) (I: -2305843009213693952<=g/\g<=2305843009213693952) (J: -2305843009213693952<=n/\n<=2305843009213693952) (G:U64 b) (aa:n-g<=0) (ab: -63<=n-g) (w:World):
  Calls prog 236 #[θ #[ι g,ψ b],ι n] w λe w'=>e= .returned (θ #[ι g,ψ (lay b (-(n-g)) 1 1)])/\qh w w':=by
 obtain⟨U,Y⟩:=I;obtain⟨ad,n2⟩:=J;have H:=κ G;clear G;have N: ∀x:qu (w.alloc (.cells #[ι g,ψ b] 233)),x.w'.cell? ⟨w.heap.size,0,ϋ⟩=ϊ (ι g):=λx=>x.new 0 rfl
 have O: ∀x:qu (w.alloc (.cells #[ι g,ψ b] 233)),x.w'.cell? ⟨w.heap.size,1,ϋ⟩=ϊ (ψ b):=λx=>x.new 1 rfl
 go_enter func236,ntmps236
 go_wp2_with fail
 refine Qn (w.alloc (.cells #[ι g,ψ b] 233)) 8 9 [6,8] ?_
 refine Qq6 ?_
 (refine Ql ?_;intro K d)
 refine(Lt b 1 _ _ H.o ζ (by unfold I64;omega) ζ _).mono ?_;rintro e w2 ⟨rfl,ac,rfl⟩;refine⟨_,rfl,qo ((Z0.dr _).dr _),d _ _ ?_⟩;clear d K
 refine Qq1 ?_
 (refine Qe ?_;intro K d)
 refine d _ _ ?_;clear d K;refine qD ?_;go_wp2;refine bodyPost_ret (v:= θ #[ι g,ψ (lay b (-(n-g)) 1 1)]) (by simp[results,results236,go_sem]) rfl ⟨rfl, ?_⟩;exact(((((qh.refl w).al _).al _).dr _).st η _).st η _
def Mid (n:Int):Prop:= -2305843009213693952<=n/\n<=2305843009213693952
instance (n:Int):Decidable (Mid n):=by unfold Mid;infer_instance
def QO (g b n:Int) (d:Mid g) (G:Mid n) (H:U64 b) (w:World):
  Calls prog 236 #[θ #[ι g,ψ b],ι n] w λe w'=>e= .returned (θ #[ι (zW g b n).1,ψ (zW g b n).2])/\qh w w':=by
 by_cases h1:63<n-g
 ·rw[show zW g b n=(n,1) from by unfold zW;rw[ϒ h1]];exact F0 g b n d G h1 w
 ·by_cases h2:0<n-g
  ·rw[show zW g b n=(n,bits .or .u64 (IntKind.u64.wrap (b* 2 ^ (n-g).toNat)) 1) from by unfold zW;rw[ώ h1,ϒ h2]];exact Lo g b n d G τ h2 w
  ·by_cases h3: -63<=n-g
   ·rw[show zW g b n=(g,lay b (-(n-g)) 1 1) from by unfold zW;rw[ώ h1,ώ h2,ϒ h3]];exact Lp g b n d G H τ h3 w
   ·rw[show zW g b n=(g,b) from by unfold zW;rw[ώ h1,ώ h2,ώ h3]];exact FZ g b n d G τ w
def Lv (g b n:Int) (Y:Mid g) (aa:Mid n) (O:U64 b) (w:World):
  Calls prog 248 #[θ #[ι g,ψ b],ι n] w λe w'=>e= .returned (μ (yK g b n))/\qh w w':=by
 have I:=κ O;have J:=κ Y;have N:=κ aa;have U:U64 b:=O;clear O;obtain⟨ae,af⟩:=Y;obtain⟨ah,n2⟩:=aa;have ac: ∀x:qu (w.alloc (.cells #[ι g,ψ b] 233)),x.w'.cell? ⟨w.heap.size,0,ϋ⟩=ϊ (ι g):=λx=>x.new 0 rfl
 have ad: ∀x:qu (w.alloc (.cells #[ι g,ψ b] 233)),x.w'.cell? ⟨w.heap.size,1,ϋ⟩=ϊ (ψ b):=λx=>x.new 1 rfl
 have ab:=Da;by_cases hlt:g-63<=n
 ·have H:=MT g b n U hlt;clear U;by_cases e1:(zW g b n).1=g
  ·by_cases e2:(zW g b n).2=b
   ·have d:=κ (show ό=yK g b n by rw[<-H];simp[e1,e2]);clear H
    go_enter func248,ntmps248
    go_wp2;refine qG (w.alloc (.cells #[ι g,ψ b] 233)) (qh.refl _) ξ ξ ?_
    repeat (go_big_quiet_step ((go_at_call 236;exact xn (QO g b n J.o N.o I.o _))))
    refine wpQuiet_nil ?_;intro _ G;obtain⟨x,rfl⟩:=G;go_wp2;go_ret;exact⟨jq d.o,Z0.trans x.h⟩
   ·have d:=κ (show ύ=yK g b n by rw[<-H];simp[e2]);clear H
    go_enter func248,ntmps248
    go_wp2;refine qG (w.alloc (.cells #[ι g,ψ b] 233)) (qh.refl _) ξ ξ ?_
    repeat (go_big_quiet_step ((go_at_call 236;exact xn (QO g b n J.o N.o I.o _))))
    refine wpQuiet_nil ?_;intro _ G;obtain⟨x,rfl⟩:=G;go_wp2;go_ret;exact⟨jq d.o,Z0.trans x.h⟩
  ·have d:=κ (show ύ=yK g b n by rw[<-H];simp[e1]);clear H
   go_enter func248,ntmps248
   go_wp2;refine qG (w.alloc (.cells #[ι g,ψ b] 233)) (qh.refl _) ξ ξ ?_
   repeat (go_big_quiet_step ((go_at_call 236;exact xn (QO g b n J.o N.o I.o _))))
   refine wpQuiet_nil ?_;intro _ G;obtain⟨x,rfl⟩:=G;go_wp2;go_ret;exact⟨jq d.o,Z0.trans x.h⟩
 ·have d:=κ (show ύ=yK g b n by unfold yK;simp[show ¬(n<=g/\g-n<=63) by omega]);clear U;have ag:decide (g-63<=n)=ύ:=by simp;omega
  clear hlt
  go_enter func248,ntmps248
  go_wp2;refine qG (w.alloc (.cells #[ι g,ψ b] 233)) (qh.refl _) ξ ξ ?_
  repeat (go_big_quiet_step (fail))
  refine wpQuiet_nil ?_;intro _ G;obtain⟨x,rfl⟩:=G;go_wp2;go_ret;exact⟨jq d.o,Z0.trans x.h⟩
abbrev Hd:=Int×Int×Int
variable {L T:List Hd} {h:Hd} {p:Hd->Bool}
def hd1 (h:Hd):List Value:=[.int .i64 h.1,.int .i64 h.2.1,.int .i64 h.2.2]
def hdC (l:List Hd):List Value:=l.flatMap hd1
def QJ (h:Hd) (l:List Hd):hdC (h::l)=hd1 h++hdC l:=rfl
def wN (k l:List Hd):hdC (k++l)=hdC k++hdC l:=by simp[hdC]
def yQ (l:List Hd):(hdC l).length=l.length* 3:=by
 induction l with
 | nil=>rfl
 | cons p l ih=>rw[QJ,Ϗ,ih,Ϙ];simp[hd1];omega
def Cf: ∀(l:List Hd) (i:Nat),i<l.length->(hdC l)[i* 3]? =ϊ (ι (l.getD i (0,0,0)).1)/\(hdC l)[i* 3+1]? =ϊ (ι (l.getD i (0,0,0)).2.1)/\(hdC l)[i* 3+2]? =ϊ (ι (l.getD i (0,0,0)).2.2)
 | [],_,h=>ϧ h η
 | h::l,0,_=>⟨rfl,rfl,rfl⟩
 | h::l,i+1,hi=>by
  have d:=Cf l i (by simpa using hi);have e: ∀c,(hdC (h::l))[(i+1)* 3+c]? =(hdC l)[i* 3+c]? :=by
   intro c;rw[QJ,ϯ (by simp[hd1];omega)]
   congr 1
   simp[hd1];omega
  have e0:=e 0;rw[I7,I7] at e0;rw[e0,e 1,e 2];exact d
def Vr (l:List Hd): ∀u∈hdC l,u.oneCell'=ό:=by
 intro u d;obtain⟨h,_,d⟩:=List.mem_flatMap.1 d;simp[hd1] at d;rcases d with rfl | rfl | rfl<;>rfl
def yx (w:World) (base:Nat) (v:Value) (L:List Hd):Prop:=w.ownsRow base 338 3 v L.length (hdC L)
def yx.more (h:yx w base v L) (m:qh w w'):yx w' base v L:=jJ h m
def yx.shape (h:yx w base v L): ∃oa cap,v= δ oa L.length cap/\(L.length:Int)<=9223372036854775807:=by
 rcases h.2 with ⟨rfl,d⟩ | ⟨g,cap,cur,rfl,_,_,H,G,_⟩
 ·exact⟨ϋ,0,by rw[d],τ⟩
 ·exact⟨_,cap,rfl,by unfold maxLen at G;omega⟩
def yx.cell (h:yx w base v L) (i:Nat) (hi:i<L.length):
  ∃g cap,v= δ (ϊ ⟨g,0,ϋ⟩) L.length cap/\base<=g/\g<w.heap.size/\ ∀x,qh w x->x.cell? ⟨g,i* 3,ϋ⟩=ϊ (ι (L.getD i (0,0,0)).1)/\x.cell? ⟨g,i* 3+1,ϋ⟩=ϊ (ι (L.getD i (0,0,0)).2.1)/\x.cell? ⟨g,i* 3+2,ϋ⟩=ϊ (ι (L.getD i (0,0,0)).2.2):=by
 rcases h.2 with ⟨rfl,O⟩ | ⟨g,cap,cur,rfl,I,d,Y,U,aa,N⟩
 ·omega
 ·refine⟨g,cap,rfl,I,lt_of_block d,λx m=> ?_⟩;obtain⟨a0,G,H⟩:=Cf L i hi;have key: ∀j,j<L.length* 3->x.cell? ⟨g,j,ϋ⟩=(hdC L)[j]? :=by
   intro j J;rw[m.cells g j (lt_of_block d),cell_of_row w g _ cur _ (0,0) d,<-N,A8,ϒ J];simp
  exact⟨by rw[key _ τ];exact a0,by rw[key _ τ];exact G,by rw[key _ τ];exact H⟩
def Xj (p:Hd->Bool) (L:List Hd):Int:=if L.findIdx p<L.length then (L.findIdx p:Int) else -1
def Fq {k:Nat} (d:k<L.length) (h:p (L.getD k (0,0,0))=ό) (G: ∀j,j<k->p (L.getD j (0,0,0))=ύ):Xj p L=k:=by
 have e:L.findIdx p=k:=by
  rw[List.findIdx_eq d];rw[ϑ,ϖ d,ϩ] at h;refine⟨h,λj H=> ?_⟩;have:=G j H
  rwa [ϑ,ϖ τ,ϩ] at this
 unfold Xj;rw[e,ϒ d]
def Ac (G: ∀j,j<L.length->p (L.getD j (0,0,0))=ύ):Xj p L= -1:=by
 have e:L.findIdx p=L.length:=by
  rw[List.findIdx_eq_length];intro x H;obtain⟨j,d,rfl⟩:=ε.1 H;have:=G j d
  rwa [ϑ,ϖ d,ϩ] at this
 unfold Xj;rw[e,ώ (Nat.lt_irrefl _)]
def Fr (p:Hd->Bool) (L:List Hd):decide (0<=Xj p L)=L.any p:=by
 unfold Xj;by_cases h:L.findIdx p<L.length
 ·rw[ϒ h,Ϩ τ];exact(R8.2 ⟨L[L.findIdx p],Ϣ _,List.findIdx_getElem⟩).symm
 ·rw[ώ h];have e:L.any p=ύ:=by
   rw[M0];intro x G d;exact h (List.findIdx_lt_length_of_exists ⟨x,G,d⟩)
  rw[e];rfl
def Yj (g:Nat) (lb:Array Value) (p:Hd->Bool) (L:List Hd) (w:World):Prop:=
 ∀(W:World) (x:Hd),x∈L->qh w W->Calls Tryz.prog g (#[.agg #[.int .i64 x.1,.int .i64 x.2.1,.int .i64 x.2.2]]++lb) W λe w'=>e= .returned (.bool (p x))/\qh W w'
def gB (g:Nat) (ag:Array Value) (p:Hd->Bool) (ab: ∀args w,(callFunc g args).run prog w= .ok (.enter g args) w) (L:List Hd) (v:Value) (base:Nat) (w:World) (row:yx w base v L) (af:Yj g ag p L w):
  Calls prog 231 #[v,.func (.func g) #[] ag] w λe w'=>e= .returned (ι (Xj p L))/\qh w w':=by
 have ai:=κ row;have ah:=κ af;obtain⟨ar,cap,rfl,ao⟩:=row.shape;clear row af
 go_enter func231,ntmps231
 go_wp2
 go_loopw [5,8] (λ_ aa wr=> ∃k:Nat,k<=L.length/\aa= ι k/\(∀j,j<k->p (L.getD j (0,0,0))=ύ)/\qh w wr) (λ_ aa _=>L.length-(intOf aa).toNat)
 case atStart=>exact⟨0,τ,rfl,λj ae=>ϧ ae (Nat.not_lt_zero _),qh.refl _⟩
 case round=>
  obtain⟨k,aq,rfl,ac,J⟩:=hrel;have I:=κ ac;have O:=κ J;clear ac;by_cases hlt:k<L.length
  ·have ak:(k:Int)<(L.length:Int):=by omega
   obtain⟨b,c,e,_,ap,ad⟩:=ai.o.cell k hlt;cases e;obtain⟨aj,c1,c2⟩:=ad wr J;have d:=ah.o wr (L.getD k (0,0,0)) (by rw[ϑ,ϖ hlt];exact Ϣ hlt) J;have Y:Hid (p (L.getD k (0,0,0))=ό->Xj p L=k):=κ λh=>Fq hlt h I.o
   have U:Hid (p (L.getD k (0,0,0))=ύ-> ∀j,j<k+1->p (L.getD j (0,0,0))=ύ):=κ λh j ae=>by
    by_cases e:j=k
    ·subst e;exact h
    ·exact I.o j τ
   clear ad J I;generalize L.getD k (0,0,0)=y at *;obtain⟨al,am,an⟩:=y;simp only at aj c1 c2 d;cases hq:p (al,am,an) with
   | true=>
    rw[hq] at d;have G:=κ (Y.o hq);clear Y U hq
    go_wp2_with (refine d.mono ?_;rintro e w' ⟨rfl,H⟩;have N:=κ H;clear H d ab)
    go_ret;exact⟨by rw[G.o];rfl,O.o.trans N.o⟩
   | false=>
    rw[hq] at d;have G:=κ (U.o hq);clear Y U hq
    go_wp2_with (refine d.mono ?_;rintro e w' ⟨rfl,H⟩;have N:=κ H;clear H d ab)
    go_roundw
    case rel=>exact⟨k+1,τ,by go_num,G.o,O.o.trans N.o⟩
    case measure=>simp[intOf];omega
  ·obtain rfl:k=L.length:=by omega
   have G:=κ (Ac I.o);have ak: ¬(L.length:Int)<(L.length:Int):=by omega
   go_wp2;go_ret;exact⟨by rw[G.o];rfl,O.o⟩
def xK (g:Nat) (d:Array Value) (p:Hd->Bool) (J: ∀args w,(callFunc g args).run prog w= .ok (.enter g args) w) (L:List Hd) (v:Value) (base:Nat) (w:World) (row:yx w base v L) (G:Yj g d p L w):
  Calls prog 173 #[v,.func (.func g) #[] d] w λe w'=>e= .returned (μ (L.any p))/\qh w w':=by
 have I:=κ row;have H:=κ G;obtain⟨U,cap,rfl,O⟩:=row.shape;rw[<-Fr];clear row G
 go_enter func173,ntmps173
 go_wp2_with (go_at_call 231;((with_reducible refine(gB g d p J L _ base _ I.o H.o).mono ?_);rintro e w1 ⟨rfl,N⟩))
 go_ret;exact⟨rfl,N⟩
def zf (cur:List Value) (o:Nat) (vs:List Value):List Value:=cur.take o++vs++cur.drop (o+vs.length)
def uW {cur d:List Value} {o:Nat} (h:o+d.length<=cur.length):(zf cur o d).length=cur.length:=by
 unfold zf;rw[Ϗ,Ϗ,ϛ,Ϡ];omega
def jG {g:Nat} {cur:Array Value} (h:w.heap[g]? =ϊ (.cells cur e (0,0))) (cs:Array Value):(w.setRow g cs).heap[g]? =ϊ (.cells cs e (0,0)):=setRow_heap w g cur cs e (0,0) h
def qk.setRow (w:World) (g:Nat) (cs:Array Value):qk (λk=>k=g) w (w.setRow g cs):=by
 refine⟨rfl,rfl,rfl,by simp[World.setRow],λb G d=> ?_⟩;unfold World.setRow;simp only;rw[G5,ώ (λe=>d e.symm)]
def vt (w:World) (t ad e:TypeId) (i:TypeInfo) (ac:P.underlying t=ϊ (.slice e)) (hi:P.info? e=ϊ i) (g o G J:Nat) (cur:Array Value) (Y:w.heap[g]? =ϊ (.cells cur e (0,0)))
  (a:Addr) (d I:Nat) (cs:List Value) (aa:cs.length=Nat.min d G* i.size) (ab: ∀j v,cs[j]? =ϊ v->w.cell? (a.add j)=ϊ v) (U:o+cs.length<=cur.size) (N: ∀v∈cs,v.oneCell'=ό):
  (Builtin.copy_ #[t,t] ad #[δ (ϊ ⟨g,o,ϋ⟩) G J,δ (ϊ a) d I]).run P w= .ok (goInt (Nat.min d G)) (w.setRow g (zf cur.toList o cs).toArray):=by
 have O:=run_firstCells_some (P:=P) (w:=w) i.size (Nat.min d G) a d I cs aa ab;have H:=run_storeCells_at P g o e cs 0 cur w Y (by simpa using U) N;simp only[I7] at H;unfold zf;simp[Builtin.copy_,run_underlying ac,Builtin.lenOf,sizeOf,typeInfo,hi,O,H]
def ZZ (w:World) (t O e:TypeId) (z:Value) (J:P.underlying t=ϊ (.slice e)) (N:(zeroValue e).run P w= .ok z w) (g o n c:Nat) (U:0<n) (cur:Array Value) (I:w.heap[g]? =ϊ (.cells cur e (0,0)))
  (H:o+(Builtin.zeroCells z.cells n).toList.length<=cur.size) (G: ∀v∈(Builtin.zeroCells z.cells n).toList,v.oneCell'=ό):
  (Builtin.clear_ #[t] O #[δ (ϊ ⟨g,o,ϋ⟩) n c]).run P w= .ok (.tuple #[]) (w.setRow g (zf cur.toList o (Builtin.zeroCells z.cells n).toList).toArray):=by
 have d:=run_storeCells_at P g o e (Builtin.zeroCells z.cells n).toList 0 cur w I (by simpa using H) G;simp only[I7] at d;obtain⟨m,rfl⟩: ∃m,n=m+1:=⟨n-1,τ⟩;unfold zf;simp[Builtin.clear_,run_underlying J,N,d]
def Xn
  (G:o.guard=ϋ) (s x:Operand) (t t':TypeId) (H:o.op=Op.call {callee:=Callee.builtin Builtin.append,args:= #[s,x],argTypes:= #[t,t']})
  (v u:Value) (J:a.eval s=v) (O:a.eval x=u) (I:(Builtin.append_ #[t,t'] o.type #[v,u]).run P w= .ok v' w') (d:K (a.put o.dst v') w'):
  if Region.wanted o (yielded ops a.tmps)=ό then Oper.wp P o a w K Q else E:=by
 have N:Region.wanted o (yielded ops a.tmps)=ό:=by simp[Region.wanted,G]
 rw[ϒ N];unfold Oper.wp;simp[execOp,H,resolve,invoke,builtin,J,O,I,Result.andThen];exact d
def PQ (w:World):(zeroValue 338).run prog w= .ok (θ #[ι 0,ι 0,ι 0]) w:=by kernel_rfl
def UM:(Builtin.zeroCells (θ #[ι 0,ι 0,ι 0]).cells 1).toList=[ι 0,ι 0,ι 0]:=by kernel_rfl
def VX (h:Hd) (T:List Hd) (v:Value) (base:Nat) (w:World) (row:yx w base v (h::T)):
  Calls prog 235 #[v,ι 0,ι 1] w λe w'=> ∃v',e= .returned v'/\yx w' base v' T/\qk (λk=>v.ownBlock=ϊ k) w w'/\v'.ownBlock=v.ownBlock:=by
 obtain⟨ag,⟨_,aa⟩ | ⟨g,cap,cur,rfl,ar,J,U,ab,ac,Y⟩⟩:=row
 ·simp at aa
 rw[Ϙ] at ag U Y ⊢;obtain⟨ax,aj,av,am,aw⟩:=info_parts (P:=prog) (e:=338) (z:= θ #[ι 0,ι 0,ι 0]) (size:=3) (bytes:=24) ξ;obtain⟨n,O⟩:=ν (T.length);rw[O] at ag U Y ⊢;have d:(hdC T).length=n* 3:=by rw[yQ,O]
 have ai:cur.toList.length=cap* 3:=by simpa using ac
 obtain⟨A,ay,ak⟩: ∃A:Addr,(if cap=1 then ϊ (⟨g,0,ϋ⟩:Addr) else ϊ ⟨g,3,ϋ⟩)=ϊ A/\ ∀j u,(hdC T)[j]? =ϊ u->w.drew.cell? (A.add j)=ϊ u:=by
  by_cases h1:cap=1
  ·refine⟨⟨g,0,ϋ⟩,by simp[h1],λj u H=> ?_⟩;have aa:(hdC T).length=0:=by rw[d];omega
   rw[A4.1 aa] at H;simp at H
  ·refine⟨⟨g,3,ϋ⟩,by simp[h1],λj u H=> ?_⟩;have aC:j<n* 3:=by rw[<-d];exact(ϟ.1 H).1
   rw[Addr.add_lit];show w.cell? ⟨g,3+j,ϋ⟩=ϊ u;rw[cell_of_row w g _ cur _ (0,0) J];have e:(hdC (h::T))[3+j]? =ϊ u:=by
    rw[QJ,ϯ (by simp[hd1])]
    simpa [hd1] using H
   rw[<-Y,A8,ϒ τ] at e
   simpa using e
 have ae: ∀G,(Builtin.append_ #[230,230] G #[δ (ϊ ⟨g,0,ϋ⟩) 0 cap,δ (ϊ A) n (cap-1)]).run prog w.drew= .ok (δ (ϊ ⟨g,0,ϋ⟩) n cap) (w.drew.setRow g (hdC T++cur.toList.drop (n* 3)).toArray):=by
  intro G;have:=run_append_room (P:=prog) (w:=w.drew) 230 G 338 ax underlying230 aj g 0 cap cur J A n (cap-1) (hdC T) (by rw[am];exact d) ak (Vr T) τ (by rw[d];have:cur.size=cap* 3:=ac;omega);rw[E9,M5,E9,Q6,I5,d] at this;exact this
 obtain⟨W1,I⟩: ∃W1,W1=w.drew.setRow g (hdC T++cur.toList.drop (n* 3)).toArray:=⟨_,rfl⟩;have ad:W1.heap[g]? =ϊ (.cells (hdC T++cur.toList.drop (n* 3)).toArray 338 (0,0)):=by rw[I];exact jG (w:=w.drew) J _
 have ah:qk (λk=>k=g) w W1:=by rw[I];exact(show qk (λk=>k=g) w w.drew from qk.of_more (qh.drewN w 1)).trans (qk.setRow w.drew g _)
 have N:(hdC T++cur.toList.drop (n* 3)).length=cap* 3:=by rw[Ϗ,Ϡ,d,ai];omega
 have af: ∀G c,(Builtin.clear_ #[230] G #[δ (ϊ ⟨g,n* 3,ϋ⟩) 1 c]).run prog W1= .ok (.tuple #[]) (W1.setRow g (zf (hdC T++cur.toList.drop (n* 3)) (n* 3) [ι 0,ι 0,ι 0]).toArray):=by
  intro G c;have:=ZZ (P:=prog) W1 230 G 338 (θ #[ι 0,ι 0,ι 0]) underlying230 (PQ W1) g (n* 3) 1 c ζ _ ad (by rw[UM];show n* 3+3<=_;rw[I4,N];omega) (by rw[UM];intro v al;simp at al;rw[al];rfl);rw[UM] at this
  simpa using this
 have ao:Hid (yx (W1.setRow g (zf (hdC T++cur.toList.drop (n* 3)) (n* 3) [ι 0,ι 0,ι 0]).toArray) base (δ (ϊ ⟨g,0,ϋ⟩) n cap) T):=κ (by
  refine⟨by rw[yQ],ϓ ⟨g,cap,_,by rw[O],ar,jG ad _,τ,ab, ?_, ?_⟩⟩
  ·rw[I4,uW (by rw[N];show n* 3+3<=_;omega),N]
  ·unfold zf;rw[O];simp only[Ϫ]
   rw[I0 (by rw[ϛ,Ϗ,d];omega),W5,Nat.min_self,I0 (by rw[d];exact ϕ _),K5 (by rw[d];exact ϕ _)])
 have an:Hid (qk (λk=>k=g) w (W1.setRow g (zf (hdC T++cur.toList.drop (n* 3)) (n* 3) [ι 0,ι 0,ι 0]).toArray)):=κ (ah.trans (qk.setRow W1 g _));rw[<-I] at ae;have ap:=κ ae;have aq:=κ af;have az:1<=cap:=by omega
 have aE:n+1<=cap:=U;have aA:(cap:Int)<=9223372036854775807:=by unfold maxLen at ab;omega
 generalize W1.setRow g (zf (hdC T++cur.toList.drop (n* 3)) (n* 3) [ι 0,ι 0,ι 0]).toArray=W2 at *;clear ae af ak ag Y ac ai d J ad ah N I ab aj av am aw U;have mixed:prog.follows Departure.mixedOrders=ό:=by kernel_rfl
 have aD:(1:Int)<=(n:Int)+1:=by omega
 go_enter func235,ntmps235
 go_wp2_with fail
 go_region_law_o (refine Xn rfl (.tmp 22) (.tmp 25) 230 230 rfl _ _ (by simp[Act.eval,Act.put]) (by simp[Act.eval,Act.put]) (ap.o _) ?_)
 have af:=aq.o;have aB: ¬cap=n:=by omega
 go_wp2;go_ret;exact⟨_,rfl,ao.o,an.o.mono λk au=>by subst au;rfl,rfl⟩
section
open Go.RowKit Go.Lib
def QH (A B d:List Value):zf (A++B) A.length d=A++(d++B.drop d.length):=by
 unfold zf;rw[U1,Ϫ]
 congr 2
 rw[<-U2,V1]
def Hz {A Z D X V:List Value} (G:Z.length=V.length):zf (zf (A++(Z++D)) (A.length+Z.length) X) A.length V=A++(V++(X++D.drop X.length)):=by
 have d:zf (A++(Z++D)) (A.length+Z.length) X=A++(Z++(X++D.drop X.length)):=by
  have:=QH (A++Z) D X;rw[Ϗ] at this
  simpa only[Ϫ] using this
 rw[d,QH,<-G,V1]
def Er {A Z D X V:List Value} (d:Z.length=V.length):zf (zf (A++(Z++D)) A.length V) (A.length+V.length) X=A++(V++(X++D.drop X.length)):=by
 rw[QH,<-d,V1];have:=QH (A++V) D X;rw[Ϗ] at this;rw[d]
 simpa only[Ϫ] using this
section
variable {P:Program}
def wD
  (N:o.guard=ϋ) (d x:Operand) (G H:TypeId) (O:o.op=Op.call {callee:=Callee.builtin Builtin.copy,args:= #[d,x],argTypes:= #[G,H]})
  (v u:Value) (J:a.eval d=v) (aa:a.eval x=u) (U:(Builtin.copy_ #[G,H] o.type #[v,u]).run P w= .ok v' w') (I:K (a.put o.dst v') w'):
  if Region.wanted o (yielded ops a.tmps)=ό then Oper.wp P o a w K Q else E:=by
 have Y:Region.wanted o (yielded ops a.tmps)=ό:=by simp[Region.wanted,N]
 rw[ϒ Y];unfold Oper.wp;simp[execOp,O,resolve,invoke,builtin,J,aa,U,Result.andThen];exact I
end
def Qx (h:Hd):(hd1 h).length=3:=rfl
structure V2 (L:List Hd) (h:Hd) (v:Value) (base:Nat) (w:World) (vb:Nat):Prop where
 row:yx w base v L
 base:base<=w.heap.size
 len:L.length<=1000
 one:w.heap[vb]? =ϊ (.cells #[.int .i64 h.1,.int .i64 h.2.1,.int .i64 h.2.2] 338 (0,0))
 ne:v.ownBlock≠ϊ vb
def XT (L:List Hd) (i:Nat) (h:Hd) (v:Value) (base:Nat) (w:World) (e:Ending) (w':World):Prop:=
 ∃v',e= .returned v'/\yx w' base v' (L.take i++h::L.drop i)/\qk (λk=>v.ownBlock=ϊ k) w w'/\(v'.ownBlock=v.ownBlock∨v'.ownBlock=ϊ w.heap.size)
def Jp {vb:Nat} (d:w.heap[vb]? =ϊ (.cells #[ι h.1,ι h.2.1,ι h.2.2] 338 (0,0))): ∀j u,(hd1 h)[j]? =ϊ u->w.cell? ((⟨vb,0,ϋ⟩:Addr).add j)=ϊ u:=by
 intro j u G;rw[Addr.add_lit,E9,cell_of_row w vb j _ _ (0,0) d]
 simpa [hd1] using G
def Vs (h:Hd): ∀u∈hd1 h,u.oneCell'=ό:=by
 intro u d;simp[hd1] at d;rcases d with rfl | rfl | rfl<;>rfl
def Gn (L:List Hd) (h:Hd) (v:Value) (base:Nat) (w:World) (vb:Nat) (ok:V2 L h v base w vb):
  Calls prog 249 #[v,ι L.length,δ (ϊ ⟨vb,0,ϋ⟩) 1 1] w (XT L L.length h v base w):=by
 obtain⟨row,aj,aw,H,ac⟩:=ok;obtain⟨aq,G,O,U,Y⟩:=info_parts (P:=prog) (e:=338) (z:= θ #[ι 0,ι 0,ι 0]) (size:=3) (bytes:=24) ξ;obtain⟨v',w',N,J,d,_,I⟩: ∃v' w',(∀ad,(Builtin.append_ #[230,230] ad #[v,δ (ϊ ⟨vb,0,ϋ⟩) 1 1]).run prog w= .ok v' w')/\w'.ownsRow base 338 3 v' (L.length+1) (hdC L++hd1 h)/\w.grownBy w' v.ownBlock/\True/\(v'.ownBlock=v.ownBlock∨v'.ownBlock=ϊ w.heap.size):=by
  obtain⟨v',w',af,ag,ah,_,ai⟩:=run_append_own_at (P:=prog) (w:=w) base 230 0 338 aq (θ #[ι 0,ι 0,ι 0]) 3 24 underlying230 G O U Y rfl ζ v L.length (hdC L) row ⟨vb,0,ϋ⟩ 1 1 (hd1 h) rfl (Jp H) (Vs h) (by unfold maxLen;omega) τ aj;exact⟨v',w',λad=>af,ag,ah,trivial,ai⟩
 have aa:Hid (XT L L.length h v base w (.returned v') w'):=κ ⟨v',rfl,by
  unfold yx;rw[ϭ,List.drop_length,wN,Ϗ]
  exact J,⟨d.os,d.tape,d.output,d.size,λk am ao=>d.block k am (λe=>ao e.symm)⟩,I⟩
 have ab:=κ N;rcases row with ⟨_,⟨rfl,ae⟩ | ⟨g,cap,cur,rfl,ar,al,an,au,ak,ap⟩⟩
 ·rw[ae] at *;clear N J d I H G O U Y ac
  go_enter func249,ntmps249
  go_wp2_with (at_builtin;refine Lib.wpList_append_run _ rfl _ _ _ _ rfl _ _ rfl rfl _ _ (ab.o _) ?_)
  go_ret;exact aa.o
 ·have av:L.length<=cap:=an;clear N J d I H G O U Y ac al ak ap
  go_enter func249,ntmps249
  go_wp2_with (at_builtin;refine Lib.wpList_append_run _ rfl _ _ _ _ rfl _ _ rfl rfl _ _ (ab.o _) ?_)
  all_goals (go_ret;exact aa.o)
end
section
open Go.RowKit Go.Lib
def Wi {C:List Value} {i:Nat} (hi:i<L.length) (H:C.take (L.length* 3)=hdC L) (I:L.length* 3<=C.length):
  ∃Z R,C=hdC (L.take i)++(Z++R)/\Z.length=3/\(hdC (L.take i)).length=i* 3:=by
 have d:(hdC (L.take i)).length=i* 3:=by rw[yQ,ϛ];congr 1;omega
 have e:C.take (i* 3)=hdC (L.take i):=by
  have G:C.take (i* 3)=(C.take (L.length* 3)).take (i* 3):=by
   rw[W5];congr 1;have:i* 3<=L.length* 3:=A0 3 τ;omega
  rw[G,H]
  conv=>lhs;rw[<-A5 i L,wN]
  rw[<-d,U1]
 refine⟨(C.drop (i* 3)).take 3,(C.drop (i* 3)).drop 3, ?_, ?_,d⟩
 ·rw[A5,<-e,A5]
 ·have:i* 3+3<=L.length* 3:=by
   have:=A0 3 (show i+1<=L.length from hi);omega
  rw[ϛ,Ϡ];omega
def KE {i:Nat} {D:List Value} (hi:i<L.length):
  (hdC (L.take i)++(hd1 h++(hdC (L.drop i)++D))).take ((L.length+1)* 3)=hdC (L.take i++h::L.drop i):=by
 have e:hdC (L.take i++h::L.drop i)=hdC (L.take i)++(hd1 h++hdC (L.drop i)):=by rw[wN,QJ]
 have d:(hdC (L.take i++h::L.drop i)).length=(L.length+1)* 3:=by
  rw[yQ,Ϗ,Ϙ,ϛ,Ϡ];congr 1;omega
 rw[<-d];have:hdC (L.take i)++(hd1 h++(hdC (L.drop i)++D))=hdC (L.take i++h::L.drop i)++D:=by rw[e];simp only[Ϫ]
 rw[this,U1]
def VG (w:World) (g vb cap o k H G:Nat) (cur I:Array Value) (N:w.heap[g]? =ϊ (.cells cur 338 (0,0))) (J:cur.size≠0) (d:w.heap[vb]? =ϊ (.cells I 338 (0,0))) (O:vb≠g):
  (callFunc 283 #[δ (ϊ ⟨vb,0,ϋ⟩) 1 1,δ (ϊ ⟨g,o,ϋ⟩) H G]).run prog w= .ok (.value (μ ύ)) w:=by
 rw[run_callFunc_extern func283 ξ ξ ξ (e:=Extern.SlicesOverlaps.overlaps #[230,230] #[4]) ξ,
  Lib.run_overlaps_apart w 230 4 338 underlying230 3 (λw=>by kernel_rfl) ⟨vb,0,ϋ⟩ ⟨g,o,ϋ⟩ 1 1 H G O 338 338 I.size cur.size (by simp[World.shape?,d]) (by simp[World.shape?,N]) J (ql d 0) (ql d _)]
 rfl
def VW (L:List Hd) (i:Nat) (hi:i<L.length) (h:Hd) (base:Nat) (w:World) (vb g cap:Nat) (ok:V2 L h (δ (ϊ ⟨g,0,ϋ⟩) L.length cap) base w vb) (av:L.length+1<=cap):
  Calls prog 249 #[δ (ϊ ⟨g,0,ϋ⟩) L.length cap,ι i,δ (ϊ ⟨vb,0,ϋ⟩) 1 1] w (XT L i h (δ (ϊ ⟨g,0,ϋ⟩) L.length cap) base w):=by
 obtain⟨row,aM,ay,ag,aq⟩:=ok;obtain⟨aG,⟨aC,_⟩ | ⟨g',aK,cur,e,aE,I,ap,ac,an,aj⟩⟩:=row
 ·cases aC
 cases e;have ar:vb≠g:=λe=>aq (by rw[e];rfl)
 obtain⟨ax,ae,aH,ak,aI⟩:=info_parts (P:=prog) (e:=338) (z:= θ #[ι 0,ι 0,ι 0]) (size:=3) (bytes:=24) ξ;have ab:cur.toList.length=cap* 3:=by simpa using an
 obtain⟨Z,R,am,Y,U⟩:=Wi hi aj τ;have H:(hdC (L.drop i)).length=(L.length-i)* 3:=by rw[yQ,Ϡ]
 obtain⟨n,af⟩:=ν (L.length);have aD:=λ(o aJ aB:Nat)=>VG w g vb cap o 0 aJ aB cur _ I τ ag ar
 have ah: ∀G d sc,(Builtin.copy_ #[230,230] G #[δ (ϊ ⟨g,(i+1)* 3,ϋ⟩) (n-i) d,δ (ϊ ⟨g,i* 3,ϋ⟩) (n+1-i) sc]).run prog w.drew= .ok (ι ((n-i:Nat):Int)) (w.drew.setRow g (zf cur.toList ((i+1)* 3) (hdC (L.drop i))).toArray):=by
  intro G d sc;have J:Nat.min (n+1-i) (n-i)=n-i:=by simp only[X9];split<;>omega
  have:=vt (P:=prog) w.drew 230 G 338 ax underlying230 ae g ((i+1)* 3) (n-i) d cur I ⟨g,i* 3,ϋ⟩ (n+1-i) sc (hdC (L.drop i)) (by rw[J,ak,H,af]) (by
   intro j u aw;rw[Addr.add_lit];show w.cell? ⟨g,i* 3+j,ϋ⟩=ϊ u;rw[cell_of_row w g _ cur _ (0,0) I];have aO:j<(L.length-i)* 3:=by rw[<-H];exact(ϟ.1 aw).1
   have e:(hdC L)[i* 3+j]? =ϊ u:=by
    conv=>lhs;rw[<-A5 i L,wN]
    rw[ϯ τ,U,S0];exact aw
   rw[<-aj,A8,ϒ τ] at e
   simpa using e) (by rw[H];omega) (Vr _)
  rw[J] at this;rw[this];rfl
 obtain⟨W1,N⟩: ∃W1,W1=w.drew.setRow g (zf cur.toList ((i+1)* 3) (hdC (L.drop i))).toArray:=⟨_,rfl⟩;have ad:W1.heap[g]? =ϊ (.cells (zf cur.toList ((i+1)* 3) (hdC (L.drop i))).toArray 338 (0,0)):=by rw[N];exact jG (w:=w.drew) I _
 have aa:qk (λk=>k=g) w W1:=by rw[N];exact(show qk (λk=>k=g) w w.drew from qk.of_more (qh.drewN w 1)).trans (qk.setRow w.drew g _)
 have O:(zf cur.toList ((i+1)* 3) (hdC (L.drop i))).length=cap* 3:=by rw[uW (by rw[H,ab];omega),ab]
 have au:=aa.blk ag ar;have ai: ∀G d,(Builtin.copy_ #[230,230] G #[δ (ϊ ⟨g,i* 3,ϋ⟩) (n+1-i) d,δ (ϊ ⟨vb,0,ϋ⟩) 1 1]).run prog W1= .ok (ι 1) (W1.setRow g (zf (zf cur.toList ((i+1)* 3) (hdC (L.drop i))) (i* 3) (hd1 h)).toArray):=by
  intro G d;have J:Nat.min 1 (n+1-i)=1:=by simp only[X9];split<;>omega
  have:=vt (P:=prog) W1 230 G 338 ax underlying230 ae g (i* 3) (n+1-i) d _ ad ⟨vb,0,ϋ⟩ 1 1 (hd1 h) (by rw[J,ak];rfl) (Jp au) (by rw[I4,O,Qx];omega) (Vs h);rw[J] at this;rw[this];rfl
 have al:Hid (XT L i h (δ (ϊ ⟨g,0,ϋ⟩) L.length cap) base w (.returned (δ (ϊ ⟨g,0,ϋ⟩) (n+1) cap)) (W1.setRow g (zf (zf cur.toList ((i+1)* 3) (hdC (L.drop i))) (i* 3) (hd1 h)).toArray)):=κ (by
  have ao:(L.take i++h::L.drop i).length=n+1:=by rw[Ϗ,Ϙ,ϛ,Ϡ];omega
  refine⟨_,rfl,⟨by rw[yQ],ϓ ⟨g,cap,_,by rw[ao],aE,jG ad _,τ,ac, ?_, ?_⟩⟩,(aa.trans (qk.setRow W1 g _)).mono λk aF=>by subst aF;rfl,ϐ rfl⟩
  ·rw[I4,uW (by rw[O,Qx];omega),O]
  ·have:=Hz (A:=hdC (L.take i)) (Z:=Z) (D:=R) (X:=hdC (L.drop i)) (V:=hd1 h) (by rw[Y];rfl);rw[Y,U,<-am,show i* 3+3=(i+1)* 3 by omega] at this;rw[ao,<-af];simp only[this]
   exact KE hi)
 rw[<-N] at ah;generalize W1.setRow g (zf (zf cur.toList ((i+1)* 3) (hdC (L.drop i))) (i* 3) (hd1 h)).toArray=W2 at *;rw[af] at av ay ap al ⊢;have az:=κ ah;have aA:=κ ai;have mixed:prog.follows Departure.mixedOrders=ό:=by kernel_rfl
 have aQ:IntKind.i64.wrap ((i:Int)+1)=(i:Int)+1:=by rw[IntKind.wrap_i64];omega
 have aL:(0:Int)<=(i:Int)+1:=by omega
 have aP:((i:Int)+1).toNat=i+1:=by omega
 have aR:(i:Int)<=(n:Int):=by omega
 have aS: ¬(cap:Int)<(n:Int)+1:=by omega
 have aT:(n:Int)<=1000:=by omega
 have aU:(i:Int)+1<=(n:Int)+1:=by omega
 have aV: ¬cap=i:=by omega
 have aW: ¬cap=i+1:=by omega
 have aX:(i:Int)<=(n:Int)+1:=by omega
 have aN:(cap:Int)<=9223372036854775807:=by unfold maxLen at ac;omega
 clear ah ai ab H ad aa O au ag I an aj aG ae aH ak aI am Y U N aq av ap ay ac
 go_enter func249,ntmps249
 go_wp2_with (simp only[aD])
 go_region_law_o (refine wD rfl (.tmp 73) (.tmp 76) 230 230 rfl _ _ (by simp[Act.eval,Act.put]) (by simp[Act.eval,Act.put]) (az.o _ (cap-(i+1)) (cap-i)) ?_)
 have ai:=aA.o;go_wp2;go_ret;exact al.o
end
section
open Go.RowKit Go.Lib
def UF (L:List Hd) (i:Nat) (hi:i<L.length) (h:Hd) (base:Nat) (w:World) (vb g cap:Nat) (ok:V2 L h (δ (ϊ ⟨g,0,ϋ⟩) L.length cap) base w vb) (bk:cap<L.length+1):
  Calls prog 249 #[δ (ϊ ⟨g,0,ϋ⟩) L.length cap,ι i,δ (ϊ ⟨vb,0,ϋ⟩) 1 1] w (XT L i h (δ (ϊ ⟨g,0,ϋ⟩) L.length cap) base w):=by
 obtain⟨row,bj,bd,aL,bb⟩:=ok;obtain⟨bc,⟨aT,_⟩ | ⟨g',be,cur,e,bh,av,ba,aV,aW,aO⟩⟩:=row
 ·cases aT
 cases e;obtain⟨ak,ah,aP,ab,aD⟩:=info_parts (P:=prog) (e:=338) (z:= θ #[ι 0,ι 0,ι 0]) (size:=3) (bytes:=24) ξ;obtain⟨n,aB⟩:=ν (L.length);have Y:(hdC (L.take i)).length=i* 3:=by rw[yQ,ϛ];congr 1;omega
 have ag:(hdC (L.drop i)).length=(n-i)* 3:=by rw[yQ,Ϡ,aB]
 have au: ∀j u,(hdC L)[j]? =ϊ u->w.cell? ⟨g,j,ϋ⟩=ϊ u:=by
  intro j u J;rw[cell_of_row w g _ cur _ (0,0) av];have aX:j<L.length* 3:=by rw[<-yQ];exact(ϟ.1 J).1
  rw[<-aO,A8,ϒ aX] at J
  simpa using J
 have holds: ∀j u,(hdC (L.take i))[j]? =ϊ u->w.cell? ((⟨g,0,ϋ⟩:Addr).add j)=ϊ u:=by
  intro j u J;rw[Addr.add_lit,E9];refine au j u ?_
  conv=>lhs;rw[<-A5 i L,wN]
  rw[ϻ (ϟ.1 J).1];exact J
 have aN: ∀j u,(hdC (L.drop i))[j]? =ϊ u->w.cell? ((⟨g,i* 3,ϋ⟩:Addr).add j)=ϊ u:=by
  intro j u J;rw[Addr.add_lit];refine au _ u ?_
  conv=>lhs;rw[<-A5 i L,wN]
  rw[ϯ τ,Y,S0];exact J
 have aK:(Builtin.firstCells ak.size i (δ (ϊ ⟨g,0,ϋ⟩) i cap)).run prog w.drew= .ok (hdC (L.take i)).toArray w.drew:=by
  rw[ab];exact run_firstCells_some (w:=w.drew) 3 i ⟨g,0,ϋ⟩ i cap (hdC (L.take i)) Y holds
 have ay:i+(n+1-i)=n+1:=by omega
 have aI:(n:Int)+1-(i:Int)=((n+1-i:Nat):Int):=by omega
 obtain⟨d,ac⟩: ∃d,d=grownCap w (n+1) cap 338:=⟨_,rfl⟩;obtain⟨H,aq⟩: ∃H:Array Value,H=(hdC (L.take i)).toArray++Builtin.zeroCells (θ #[ι 0,ι 0,ι 0]).cells (n+1-i)++Builtin.zeroCells (θ #[ι 0,ι 0,ι 0]).cells (d-(n+1)):=⟨_,rfl⟩;have aC: ∀I,(Builtin.append_ #[230,3] I #[δ (ϊ ⟨g,0,ϋ⟩) i cap,ι ((n:Int)+1-(i:Int))]).run prog w= .ok (δ (ϊ ⟨w.heap.size,0,ϋ⟩) (n+1) d) (w.drew.alloc (.cells H 338)):=λI=>by
  have h:=Lib.run_append_grow_zeros (P:=prog) w 230 3 I 338 ak _ .i64 .i64 underlying230 underlying3 ah aP (ϊ ⟨g,0,ϋ⟩) i cap (hdC (L.take i)) aK (n+1-i) τ (by rw[ab];decide) τ τ (by rw[aD];omega) (by rw[aD,ay];exact growslice_fits τ τ);rw[ay,<-ac,<-aq] at h;rw[aI];exact h
 have bg:n+1<=d:=by rw[ac];exact grownCap_ge w _ _ _
 have am:d<=maxLen:=by rw[ac];exact grownCap_le_maxLen w (n+1) cap 338 (by unfold maxLen;omega)
 obtain⟨U,ar⟩:=ν ((Builtin.zeroCells (θ #[ι 0,ι 0,ι 0]).cells (n+1-i)).toList);have aG:U.length=(n+1-i)* 3:=by rw[<-ar,M9,size_zeroCells];rfl
 obtain⟨O,ao⟩:=ν ((Builtin.zeroCells (θ #[ι 0,ι 0,ι 0]).cells (d-(n+1))).toList);have aF:O.length=(d-(n+1))* 3:=by rw[<-ao,M9,size_zeroCells];rfl
 have ap:H.toList=hdC (L.take i)++(U++O):=by
  rw[aq,X3,X3,ar,ao,Ϫ]
 obtain⟨Z,D,aH,aU⟩: ∃Z D,U++O=Z++D/\Z.length=3:=⟨(U++O).take 3,(U++O).drop 3,(A5 3 _).symm,by rw[ϛ,Ϗ];omega⟩;have ad:H.toList.length=d* 3:=by rw[ap,Ϗ,Ϗ,Y,aG,aF];omega
 obtain⟨G,an⟩:=ν (w.heap.size);obtain⟨W1,ae⟩: ∃W1,W1=w.drew.alloc (.cells H 338):=⟨_,rfl⟩;have aw:W1.heap[G]? =ϊ (.cells H 338 (0,0)):=by rw[ae];exact qH (w:=w.drew) an.symm
 have az:qh w W1:=by rw[ae];exact(qh.drewN w 1).al _
 have aj: ∀I N,(Builtin.copy_ #[230,230] I #[δ (ϊ ⟨G,i* 3,ϋ⟩) (n+1-i) N,δ (ϊ ⟨vb,0,ϋ⟩) 1 1]).run prog W1= .ok (ι 1) (W1.setRow G (zf H.toList (i* 3) (hd1 h)).toArray):=by
  intro I N;have aa:Nat.min 1 (n+1-i)=1:=by simp only[X9];split<;>omega
  have:=vt (P:=prog) W1 230 I 338 ak underlying230 ah G (i* 3) (n+1-i) N H aw ⟨vb,0,ϋ⟩ 1 1 (hd1 h) (by rw[aa,ab];rfl) (Jp (qj az aL)) (by rw[Qx,<-M9,ad];omega) (Vs h);rw[aa] at this;rw[this];rfl
 obtain⟨W2,af⟩: ∃W2,W2=W1.setRow G (zf H.toList (i* 3) (hd1 h)).toArray:=⟨_,rfl⟩;have ax:W2.heap[G]? =ϊ (.cells (zf H.toList (i* 3) (hd1 h)).toArray 338 (0,0)):=by rw[af];exact jG aw _
 have aA:qh w W2:=by rw[af];exact(qk.setRow W1 G _).to_more az (λk aY=>by omega)
 have ai:(zf H.toList (i* 3) (hd1 h)).length=d* 3:=by rw[uW (by rw[Qx,ad];omega),ad]
 have aM: ∀I N sc,(Builtin.copy_ #[230,230] I #[δ (ϊ ⟨G,(i+1)* 3,ϋ⟩) (n-i) N,δ (ϊ ⟨g,i* 3,ϋ⟩) (n-i) sc]).run prog W2.drew= .ok (ι ((n-i:Nat):Int)) (W2.drew.setRow G (zf (zf H.toList (i* 3) (hd1 h)) ((i+1)* 3) (hdC (L.drop i))).toArray):=by
  intro I N sc;have aa:Nat.min (n-i) (n-i)=n-i:=Nat.min_self _
  have:=vt (P:=prog) W2.drew 230 I 338 ak underlying230 ah G ((i+1)* 3) (n-i) N _ ax ⟨g,i* 3,ϋ⟩ (n-i) sc (hdC (L.drop i)) (by rw[aa,ab,ag]) (by
   intro j u J;have:=aN j u J;rw[Addr.add_lit] at this ⊢;show W2.cell? _=_;rw[aA.cells g _ (lt_of_block av)]
   exact this) (by rw[I4,ai,ag];omega) (Vr _)
  rw[aa] at this;rw[this];rfl
 have aE:Hid (XT L i h (δ (ϊ ⟨g,0,ϋ⟩) L.length cap) base w (.returned (δ (ϊ ⟨G,0,ϋ⟩) (n+1) d)) (W2.drew.setRow G (zf (zf H.toList (i* 3) (hd1 h)) ((i+1)* 3) (hdC (L.drop i))).toArray)):=κ (by
  have aJ:(L.take i++h::L.drop i).length=n+1:=by rw[Ϗ,Ϙ,ϛ,Ϡ];omega
  have aZ:qh w (W2.drew.setRow G (zf (zf H.toList (i* 3) (hd1 h)) ((i+1)* 3) (hdC (L.drop i))).toArray):=(qk.setRow W2.drew G _).to_more (aA.trans (qh.drewN W2 1)) (λk aY=>by omega);refine⟨_,rfl,⟨by rw[yQ],ϓ ⟨G,d,_,by rw[aJ],τ,jG (w:=W2.drew) ax _,τ,am, ?_, ?_⟩⟩,qk.of_more aZ,ϓ (by rw[an];rfl)⟩
  ·rw[I4,uW (by rw[ai,ag];omega),ai]
  ·have:=Er (A:=hdC (L.take i)) (Z:=Z) (D:=D) (X:=hdC (L.drop i)) (V:=hd1 h) (by rw[aU];rfl);rw[Qx,Y,<-aH,<-ap,show i* 3+3=(i+1)* 3 by omega] at this;rw[aJ,<-aB];simp only[this]
   exact KE hi)
 rw[an,<-ae] at aC;rw[<-af] at aj;generalize W2.drew.setRow G (zf (zf H.toList (i* 3) (hd1 h)) ((i+1)* 3) (hdC (L.drop i))).toArray=W3 at *;rw[aB] at aE ⊢;have aS:=κ aC;have aQ:=κ aj;have aR:=κ aM;have mixed:prog.follows Departure.mixedOrders=ό:=by kernel_rfl
 have bm:IntKind.i64.wrap ((i:Int)+1)=(i:Int)+1:=by rw[IntKind.wrap_i64];omega
 have bi:(0:Int)<=(i:Int)+1:=by omega
 have bl:((i:Int)+1).toNat=i+1:=by omega
 have bo:(i:Int)<=(n:Int):=by omega
 have bp:(cap:Int)<(n:Int)+1:=by omega
 have bq:(n:Int)<=1000:=by omega
 have br:(i:Int)+1<=(n:Int)+1:=by omega
 have bs: ¬cap=i:=by omega
 have bt: ¬d=i:=by omega
 have bu: ¬d=i+1:=by omega
 have bv:(i:Int)<=(n:Int)+1:=by omega
 have bn:(i:Int)<=(cap:Int):=by omega
 have bf:(d:Int)<=9223372036854775807:=by unfold maxLen at am;omega
 clear aC aj aM ag aw ax az aA ai aL av aW aO bc ah aP ab aD aH Y ae af bb ba bd aV au holds aN aK ac aq ap ad ar ao aG aF aI ay am
 go_enter func249,ntmps249
 go_wp2_with (at_builtin;refine Lib.wpList_append_run _ rfl _ _ _ _ rfl _ _ rfl rfl _ _ (aS.o _) ?_;have aj:=aQ.o)
 go_region_law_o (refine wD rfl (.tmp 50) (.tmp 53) 230 230 rfl _ _ (by simp[Act.eval,Act.put]) (by simp[Act.eval,Act.put]) (aR.o _ (d-(i+1)) (cap-i)) ?_)
 go_wp2;go_ret;exact aE.o
end
section
open Go.RowKit Go.Lib
def Gp (L:List Hd) (i:Nat) (hi:i<=L.length) (h:Hd) (v:Value) (base:Nat) (w:World) (vb:Nat) (d:V2 L h v base w vb):
  Calls prog 249 #[v,ι i,δ (ϊ ⟨vb,0,ϋ⟩) 1 1] w (XT L i h v base w):=by
 by_cases e:i=L.length
 ·subst e;exact Gn L h v base w vb d
 ·rcases d.row.2 with ⟨_,G⟩ | ⟨g,cap,_,rfl,_⟩
  ·omega
  ·by_cases hc:L.length+1<=cap
   ·exact VW L i τ h base w vb g cap d hc
   ·exact UF L i τ h base w vb g cap d τ
structure Jb where
 room:Int
 wait:Int
 holds:List Hd
 begun:Bool
 hi:Int
 bits:Int
def yD (b:Jb) (v:Value):Array Value:= #[.int .i64 b.room,.int .i64 b.wait,v,.bool b.begun,.int .i64 b.hi,.int .u64 b.bits]
structure zC (w:World) (R:Nat) (v:Value) (b:Jb):Prop where
 blk:w.heap[R]? =ϊ (.cells (yD b v) 235 (0,0))
 row:yx w (R+1) v b.holds
def zC.on {b:Jb} (h:zC w R v b) (m:qh w w'):zC w' R v b:=⟨qj m h.blk,h.row.more m⟩
def zC.cells {b:Jb} (h:zC w R v b): ∀x:qu w,x.w'.cell? ⟨R,0,ϋ⟩=ϊ (ι b.room)/\x.w'.cell? ⟨R,1,ϋ⟩=ϊ (ι b.wait)/\x.w'.cell? ⟨R,2,ϋ⟩=ϊ v/\x.w'.cell? ⟨R,3,ϋ⟩=ϊ (μ b.begun)/\x.w'.cell? ⟨R,4,ϋ⟩=ϊ (ι b.hi)/\x.w'.cell? ⟨R,5,ϋ⟩=ϊ (ψ b.bits):=λx=>
 have k:=qj x.h h.blk
 ⟨qi k 0 rfl,qi k 1 rfl,qi k 2 rfl,qi k 3 rfl,qi k 4 rfl,qi k 5 rfl⟩
abbrev xQ (n:Int):Prop:=0<=n/\n<=1152921504606846976
structure JOK (b:Jb):Prop where
 room:1<=b.room/\b.room<=8
 wait:0<=b.wait/\b.wait<=1000
 fits:(b.holds.length:Int)<=b.room
 nums: ∀h∈b.holds,xQ h.1/\xQ h.2.1
 rise:b.holds.Pairwise λa c=>a.1<c.1
 hi:xQ b.hi
 bits:U64 b.bits
 over:b.begun=ό-> ∀h∈b.holds,b.hi<h.1
def AP (n:Int) (B:Nat) (x:Hd) (w:World) (d:w.heap[B]? =ϊ (.cells #[ι n] 2 (0,0))):
  Calls prog 246 #[θ #[ι x.1,ι x.2.1,ι x.2.2],γ B] w λe w'=>e= .returned (μ (x.1==n))/\qh w w':=by
 obtain⟨G,H,I⟩:=x;have J:(w.alloc (.cells #[ι G,ι H,ι I] 338)).cell? ⟨B,0,ϋ⟩=ϊ (ι n):=qi (qv d _) 0 rfl;clear d
 go_enter func246,ntmps246
 go_wp2;go_ret;exact⟨rfl,qh.alloc _ _⟩
def Gu (n:Int) (B:Nat) (x:Hd) (w:World) (d:w.heap[B]? =ϊ (.cells #[ι n] 2 (0,0))):
  Calls prog 247 #[θ #[ι x.1,ι x.2.1,ι x.2.2],γ B] w λe w'=>e= .returned (μ (decide (n<x.1)))/\qh w w':=by
 obtain⟨G,H,I⟩:=x;have J:(w.alloc (.cells #[ι G,ι H,ι I] 338)).cell? ⟨B,0,ϋ⟩=ϊ (ι n):=qi (qv d _) 0 rfl;clear d
 go_enter func247,ntmps247
 go_wp2;go_ret;exact⟨rfl,qh.alloc _ _⟩
def wl (b:Jb) (R:Nat) (v:Value) (w:World) (h:zC w R v b) (d:xQ b.hi):
  Calls prog 172 #[γ R] w λe w'=>e= .returned (.tuple #[ι (if b.begun then b.hi+1 else 0),b.begun])/\w=w':=by
 obtain⟨G,c1,c2,c3,c4,c5⟩:=h.cells ⟨w,qh.refl _⟩;obtain⟨H,I⟩:=d;clear h;cases hb:b.begun with
 | true=>
  rw[hb] at c3
  go_enter func172,ntmps172
  go_wp2
  go_ret2
  exact⟨rfl,rfl⟩
 | false=>
  rw[hb] at c3
  go_enter func172,ntmps172
  go_wp2
  go_ret2
  exact⟨rfl,rfl⟩
end
section
open Go.RowKit Go.Lib
def xY (b:Jb) (now:Int) (h:Hd):Bool:=decide (b.wait<=now-h.2.1)
def jU (b:Jb) (now:Int):Bool:=match b.holds with
 | []=>ύ
 | h::_=> !b.begun||h.1==b.hi+1||decide (b.room<=b.holds.length)||b.holds.any (xY b now)
def Gd (b:Jb) (R:Nat) (v:Value) (H:Int) (af:xQ H) (U O:Nat) (x:Hd) (ah:xQ x.2.1) (w:World) (h:zC w R v b)
  (aa:w.heap[U]? =ϊ (.cells #[ι H] 2 (0,0))) (Y:w.heap[O]? =ϊ (.cells #[γ R] 131 (0,0))):
  Calls prog 171 #[θ #[ι x.1,ι x.2.1,ι x.2.2],γ U,γ O] w λe w'=>e= .returned (μ (xY b H x))/\qh w w':=by
 obtain⟨I,J,N⟩:=x;obtain⟨ad,ae⟩:=ah;obtain⟨ak,al⟩:=af;simp only at ad ae;have d:=qh.alloc w (.cells #[ι I,ι J,ι N] 338);obtain⟨W,G⟩: ∃W,W=w.alloc (.cells #[ι I,ι J,ι N] 338):=⟨_,rfl⟩;have ab:W.heap[w.heap.size]? =ϊ (.cells #[ι I,ι J,ι N] 338 (0,0)):=by rw[G];exact qp w _
 rw[<-G] at d;have c1: ∀x:qu W,x.w'.cell? ⟨R,1,ϋ⟩=ϊ (ι b.wait):=λx=>((h.on d).cells x).2.1
 have c3:=λ(x:qu W)=>β0 (qj (d.trans x.h) aa)
 have c2:=λ(x:qu W)=>β0 (qj (d.trans x.h) Y)
 have aj:=λ(x:qu W)=>β1 (qj x.h ab)
 have ac:=κ d;clear h aa Y ab d
 go_enter func171,ntmps171
 go_wp2_with fail
 rw[<-G];clear G;generalize w.heap.size=BX at *;refine qG W (qh.refl _) ξ ξ ?_
 repeat (go_big_quiet_step (fail))
 refine wpQuiet_nil ?_;intro _ ag;obtain⟨ai,rfl⟩:=ag;go_wp2;go_ret;exact⟨rfl,ac.o.trans ai.h⟩
def YS (b:Jb) (ok:JOK b) (R:Nat) (v:Value) (d:Int) (aD:xQ d) (w:World) (h:zC w R v b):
  Calls prog 119 #[γ R,ι d] w λe w'=>e= .returned (μ (jU b d))/\qh w w':=by
 obtain⟨W,G⟩: ∃W,W=(w.alloc (.cells #[γ R] 131)).alloc (.cells #[ι d] 2):=⟨_,rfl⟩;have ak:qh w W:=by rw[G];exact(qh.alloc w _).al _
 have ah:W.heap[w.heap.size]? =ϊ (.cells #[γ R] 131 (0,0)):=by rw[G];exact qv (qp w _) _
 have ao:W.heap[w.heap.size+1]? =ϊ (.cells #[ι d] 2 (0,0)):=by rw[G];exact qH η
 have I:=κ (h.on ak);have aH: ∀x:qu W,x.w'.cell? ⟨R,0,ϋ⟩=ϊ (ι b.room):=λx=>(I.o.cells x).1
 have c2: ∀x:qu W,x.w'.cell? ⟨R,2,ϋ⟩=ϊ v:=λx=>(I.o.cells x).2.2.1
 have ap:W.cell? ⟨R,2,ϋ⟩=ϊ v:=(I.o.cells ⟨W,qh.refl _⟩).2.2.1;have ay:=λ(x:qu W)=>β0 (qj x.h ah)
 have aJ:w.heap.size≠R:=λe=>by have:=lt_of_block h.blk;omega
 have ad:=κ ak;have O:=κ I.o.row;have am:Hid (Yj 171 #[γ (w.heap.size+1),γ w.heap.size] (xY b d) b.holds W):=κ λW' x aq m=>
  Gd b R v d aD _ _ x (ok.nums x aq).2 W' (I.o.on m) (qj m ao) (qj m ah)
 obtain⟨av,cap,rfl,aB⟩:=I.o.row.shape;obtain⟨aN,aO⟩:=ok.room;have az:=ok.fits;obtain⟨ai,aj⟩:=ok.hi;clear h;have H:Hid (zC ((w.alloc (.cells #[γ R] 131)).alloc (.cells #[ι d] 2)) R (δ av b.holds.length cap) b):=κ (G▸I.o);have ab:((w.alloc (.cells #[γ R] 131)).alloc (.cells #[ι d] 2)).cell? ⟨R,2,ϋ⟩=ϊ (δ av b.holds.length cap):=G▸ap;cases hbh:b.holds with
 | nil=>
  have ae:jU b d=ύ:=by unfold jU;rw[hbh]
  have J:=κ ae;have aw:Hid (qh w ((w.alloc (.cells #[γ R] 131)).alloc (.cells #[ι d] 2))):=κ (G▸ad.o);rw[hbh,ϱ] at ab;clear ae am O ah ao ak c2 ap ay G
  go_enter func119,ntmps119
  go_wp2;go_ret;exact⟨by rw[J.o];rfl,aw.o⟩
 | cons k T=>
  have aC:b.holds.length=T.length+1:=by rw[hbh];rfl
  obtain⟨g,aI,e,aA,aM,au⟩:=O.o.cell 0 τ;cases e;have aK: ∀x:qu W,x.w'.cell? ⟨g,0,ϋ⟩=ϊ (ι k.1):=λx=>by
   have:=(au _ x.h).1;rw[M5,hbh] at this;exact this
  have ae:jU b d=(!b.begun||k.1==b.hi+1||decide (b.room<=b.holds.length)||b.holds.any (xY b d)):=by unfold jU;rw[hbh]
  have J:=κ ae;have aE: ¬(b.holds.length:Int)=0:=by omega
  have aF:(0:Int)<(b.holds.length:Int):=by omega
  clear ae au ah ao ak ap hbh aC aA;obtain⟨an,ar⟩:=ν (b.holds.length);rw[ar] at c2 ab J aE aF aB az H O;clear ar;generalize k.1=K1 at *;have ag:Hid (∀W',qh W W'->Yj 171 #[γ (w.heap.size+1),γ w.heap.size] (xY b d) b.holds W'):=κ λW' m ax x aq aG=>am.o ax x aq (m.trans aG)
  have af: ∀args w,(callFunc 171 args).run prog w= .ok (.enter 171 args) w:=λargs w=>by kernel_rfl
  clear am;cases hbg:b.begun with
  | false=>
   have ac:=κ hbg;have N:Hid (jU b d=ό):=κ (by rw[J.o,hbg];rfl);clear hbg J
   go_enter func119,ntmps119
   go_wp2_with (go_at_call 172;(go_call wl b R _ _ H.o ⟨ai,aj⟩ as e w1 ⟨rfl,rfl⟩;rw[ac.o]))
   rw[<-G];clear G H ab;generalize w.heap.size=B2 at *;refine qG W (qh.refl _) ξ ξ ?_
   repeat (go_big_quiet_step ((go_at_call 173;with_reducible exact xn (xK _ _ (xY b d) af b.holds _ (R+1) _ (O.o.more (qu.h _)) (ag.o _ (qu.h _))))))
   refine wpQuiet_nil ?_;intro _ U;obtain⟨Y,rfl⟩:=U;go_wp2;go_ret;exact⟨by rw[N.o];rfl,ad.o.trans Y.h⟩
  | true=>
   have ac:=κ hbg;have aa:Hid (jU b d=(K1==b.hi+1||decide (b.room<=(an:Int))||b.holds.any (xY b d))):=κ (by rw[J.o,hbg];rfl);clear hbg J;cases hk:(K1==b.hi+1) with
   | true=>
    have N:Hid (jU b d=ό):=κ (by rw[aa.o,hk];rfl);clear aa
    go_enter func119,ntmps119
    go_wp2_with (go_at_call 172;(go_call wl b R _ _ H.o ⟨ai,aj⟩ as e w1 ⟨rfl,rfl⟩;rw[ac.o]))
    rw[<-G];clear G H ab;generalize w.heap.size=B2 at *;refine qG W (qh.refl _) ξ ξ ?_
    repeat (go_big_quiet_step ((go_at_call 173;with_reducible exact xn (xK _ _ (xY b d) af b.holds _ (R+1) _ (O.o.more (qu.h _)) (ag.o _ (qu.h _))))))
    refine wpQuiet_nil ?_;intro _ U;obtain⟨Y,rfl⟩:=U;go_wp2;go_ret;exact⟨by rw[N.o];rfl,ad.o.trans Y.h⟩
   | false=>
    by_cases hf:b.room<=(an:Int)
    ·have N:Hid (jU b d=ό):=κ (by rw[aa.o,hk,Ϩ hf];rfl);clear aa
     go_enter func119,ntmps119
     go_wp2_with (go_at_call 172;(go_call wl b R _ _ H.o ⟨ai,aj⟩ as e w1 ⟨rfl,rfl⟩;rw[ac.o]))
     rw[<-G];clear G H ab;generalize w.heap.size=B2 at *;refine qG W (qh.refl _) ξ ξ ?_
     repeat (go_big_quiet_step ((go_at_call 173;with_reducible exact xn (xK _ _ (xY b d) af b.holds _ (R+1) _ (O.o.more (qu.h _)) (ag.o _ (qu.h _))))))
     refine wpQuiet_nil ?_;intro _ U;obtain⟨Y,rfl⟩:=U;go_wp2;go_ret;exact⟨by rw[N.o];rfl,ad.o.trans Y.h⟩
    ·have N:Hid (jU b d=b.holds.any (xY b d)):=κ (by rw[aa.o,hk,Ϯ hf];rfl);have aL:decide (b.room<=(an:Int))=ύ:=Ϯ hf;clear aa hf
     go_enter func119,ntmps119
     go_wp2_with (go_at_call 172;(go_call wl b R _ _ H.o ⟨ai,aj⟩ as e w1 ⟨rfl,rfl⟩;rw[ac.o]))
     rw[<-G];clear G H ab;generalize w.heap.size=B2 at *;refine qG W (qh.refl _) ξ ξ ?_
     repeat (go_big_quiet_step ((go_at_call 173;with_reducible exact xn (xK _ _ (xY b d) af b.holds _ (R+1) _ (O.o.more (qu.h _)) (ag.o _ (qu.h _))))))
     refine wpQuiet_nil ?_;intro _ U;obtain⟨Y,rfl⟩:=U;go_wp2;go_ret;exact⟨by rw[N.o];rfl,ad.o.trans Y.h⟩
end
section
open Go.RowKit Go.Lib
def gC (b:Jb) (n:Int):Int×Int:=if b.begun then zW b.hi b.bits n else (n,1)
def jV (b:Jb):Jb:=match b.holds with
 | []=>b
 | h::T=>{b with holds:=T,begun:=ό,hi:=(gC b h.1).1,bits:=(gC b h.1).2}
def wT {n:Int} (h:xQ n):Mid n:=by obtain⟨d,G⟩:=h;unfold Mid;omega
structure kK (w w':World) (R:Nat) (v v':Value) (b':Jb):Prop where
 buf:zC w' R v' b'
 away:qk (λk=>k=R∨v.ownBlock=ϊ k) w w'
 own:v'.ownBlock=v.ownBlock∨ ∃g,v'.ownBlock=ϊ g/\w.heap.size<=g
def yx.away (h:yx w base v L) (a:qk S w w') (H: ∀k,v.ownBlock=ϊ k-> ¬S k):yx w' base v L:=by
 obtain⟨d,G⟩:=h;refine⟨d, ?_⟩;rcases G with h | ⟨g,cap,cur,e1,hb,hg,rest⟩
 ·exact ϐ h
 ·exact ϓ ⟨g,cap,cur,e1,hb,a.blk hg (H g (by rw[e1];rfl)),rest⟩
def qk.old {a b:World} {S':Nat->Prop} (m:qh w a) (h:qk S a b) (H: ∀k,S k->S' k∨w.heap.size<=k):qk S' w b:=
 ⟨h.os.trans m.os,h.tape.trans m.tape,h.output.trans m.output,ϙ m.size h.size,λk d G=>by
  rw[h.block k (ϗ d m.size) (λx=>(H k x).elim G (λy=>by omega))]
  exact m.block k d⟩
def yx.own_ge (h:yx w base v L) {k:Nat} (d:v.ownBlock=ϊ k):base<=k/\k<w.heap.size:=by
 rcases h.2 with ⟨rfl,_⟩ | ⟨g,cap,cur,rfl,G,H,_⟩
 ·cases d
 ·obtain rfl:g=k:=by injection d
  exact⟨G,lt_of_block H⟩
def Ea (w:World) (B:Nat) (v0 d G:Value):qk (λk=>k=B) w (((w.setCell ⟨B,0,ϋ⟩ v0).setCell ⟨B,1,ϋ⟩ d).setCell ⟨B,2,ϋ⟩ G):=
 (((qk.refl (λk=>k=B) w).set (p:=⟨B,0,ϋ⟩) rfl v0).set (p:=⟨B,1,ϋ⟩) rfl d).set (p:=⟨B,2,ϋ⟩) rfl G
def YE {w5:World} {G g I cap J:Nat} {U:Option Addr} {b:Jb} {H N O ac aa:Int} {X:Value} (ai:b.holds=(H,N,O)::T) (aq:gC b H=(ac,aa))
  (ak:w5.heap[R]? =ϊ (.cells ((yD b X).setIfInBounds 2 (δ U I J)) 235 (0,0))) (al:w5.heap[G]? =ϊ (.cells #[ι 0,ι 0,ι 0] 338 (0,0)))
  (am:yx w5 (R+1) (δ U I J) T) (ad:(δ U I J).ownBlock=ϊ g) (aj:qk (λk=>k=R∨k=g) w w5) (ar:w.heap.size<=G) (au:R<w.heap.size) (av:g≠R) (aw:g<w.heap.size)
  {WF:World} (e:((((((w5.setCell ⟨R,4,ϋ⟩ (ι ac)).setCell ⟨R,5,ϋ⟩ (ψ aa)).setCell ⟨R,3,ϋ⟩ (μ ό)).setCell ⟨G,0,ϋ⟩ (ι H)).setCell ⟨G,1,ϋ⟩ (ι N)).setCell ⟨G,2,ϋ⟩ (ι O))=WF):
  WF.cell? ⟨G,0,ϋ⟩=ϊ (ι H)/\WF.cell? ⟨G,1,ϋ⟩=ϊ (ι N)/\WF.cell? ⟨G,2,ϋ⟩=ϊ (ι O)/\kK w WF R (δ (ϊ ⟨g,0,ϋ⟩) (I+1) cap) (δ U I J) (jV b):=by
 obtain⟨w6,af⟩:=ν (((w5.setCell ⟨R,4,ϋ⟩ (ι ac)).setCell ⟨R,5,ϋ⟩ (ψ aa)).setCell ⟨R,3,ϋ⟩ (μ ό));rw[af] at e;have ag:=qt (qt (qt ak 4 (ι ac)) 5 (ψ aa)) 3 (μ ό);rw[af] at ag;have ae:qk (λk=>k=R) w5 w6:=by
  rw[<-af];exact(((qk.refl (λk=>k=R) w5).set (p:=⟨R,4,ϋ⟩) rfl _).set (p:=⟨R,5,ϋ⟩) rfl _).set (p:=⟨R,3,ϋ⟩) rfl _
 have ah:R≠G:=by omega
 have ap:=ae.blk al (λx=>ah x.symm);have Y:=Ea w6 G (ι H) (ι N) (ι O);have ab:=qt (qt (qt ap 0 (ι H)) 1 (ι N)) 2 (ι O);rw[e] at Y ab;have ao:=Y.blk ag ah;refine⟨qi ab 0 rfl,qi ab 1 rfl,qi ab 2 rfl,⟨qF ao ?_, ?_⟩, ?_,ϐ (by rw[ad];rfl)⟩
 ·simp only[jV,ai,aq];rfl
 ·have:yx WF (R+1) (δ U I J) T:=(am.away ae (λk d x=>by rw[ad] at d;injection d with d;omega)).away Y (λk d x=>by rw[ad] at d;injection d with d;omega);simp only[jV,ai];exact this
 ·have an:qk (λk=>k=R∨k=g∨k=G) w WF:=(aj.mono λk d=>d.elim ϐ (λx=>ϓ (ϐ x))).trans ((ae.mono λk d=>ϐ d).trans (Y.mono λk d=>ϓ (ϓ d)));refine qk.old (qh.refl w) an λk d=> ?_
  rcases d with d | d | d
  ·exact ϐ (ϐ d)
  ·exact ϐ (ϓ (by rw[d];rfl))
  ·exact ϓ τ
def YV (b:Jb) (h:Hd) (T:List Hd) (au:b.holds=h::T) (aM:JOK b) (R:Nat) (v:Value) (w:World) (an:zC w R v b):
  Calls prog 178 #[γ R] w λe w'=>e= .returned (θ #[ι h.1,ι h.2.1,ι h.2.2])/\ ∃v',kK w w' R v v' (jV b):=by
 obtain⟨I,aa,ab⟩:=h;have bC:=(aM.nums (I,aa,ab) (by rw[au];exact ϣ)).1;have bA:=wT bC;have bB:=wT aM.hi;have bz:b.holds.length=T.length+1:=by rw[au];rfl
 obtain⟨W2,ax⟩: ∃W2,W2=(w.alloc (.cells #[ι 0,ι 0,ι 0] 338)).alloc (.cells #[ι I,ι aa,ι ab] 338):=⟨_,rfl⟩;have ay:qh w W2:=by rw[ax];exact(qh.alloc w _).al _
 have aw:=an.row;rw[au] at aw;obtain⟨g,cap,rfl,bM,bd,bc⟩:=aw.cell 0 η;obtain⟨bu,bv,bw⟩:=bc _ (qh.alloc w (.cells #[ι 0,ι 0,ι 0] 338));rw[M5] at bu bv bw;have bp:=(an.on (qh.alloc w (.cells #[ι 0,ι 0,ι 0] 338))).cells ⟨_,qh.refl _⟩;obtain⟨_,_,aY,_,_,_⟩:=bp;have bq:=(an.on ((qh.alloc w (.cells #[ι 0,ι 0,ι 0] 338)).al (.cells #[ι I,ι aa,ι ab] 338))).cells ⟨_,qh.refl _⟩;obtain⟨_,_,aZ,_,_,_⟩:=bq;have av:=κ (aw.more ay);have aF:=κ (an.on ay);have be:W2.heap[w.heap.size]? =ϊ (.cells #[ι 0,ι 0,ι 0] 338 (0,0)):=by rw[ax];exact qv (qp w _) _
 have bf:W2.heap[w.heap.size+1]? =ϊ (.cells #[ι I,ι aa,ι ab] 338 (0,0)):=by rw[ax];exact qH η
 rw[Ϙ] at aY aZ av aF ⊢;have aK:g≠R:=by omega
 have bb:=lt_of_block an.blk;have bl:=κ ay;have bm:=κ be;have bn:=κ bf;obtain⟨d,aL⟩:=ν (T.length);rw[aL] at aY aZ av aF ⊢
 have aV:Hid (∀w',w'=W2->Calls prog 235 #[δ (ϊ ⟨g,0,ϋ⟩) (d+1) cap,ι 0,ι 1] w' λe Y=> ∃J H,e= .returned (δ J d H)/\yx Y (R+1) (δ J d H) T/\
   Y.heap[R]? =ϊ (.cells (yD b (δ (ϊ ⟨g,0,ϋ⟩) (d+1) cap)) 235 (0,0))/\Y.heap[w.heap.size]? =ϊ (.cells #[ι 0,ι 0,ι 0] 338 (0,0))/\Y.heap[w.heap.size+1]? =ϊ (.cells #[ι I,ι aa,ι ab] 338 (0,0))/\
   qk (λk=>k=g) w Y/\(δ J d H).ownBlock=ϊ g):=κ λw' e=>by
  subst e;refine(VX (I,aa,ab) T _ (R+1) _ av.o).mono ?_;rintro e Y ⟨v3,rfl,ae,a3,ah⟩;obtain⟨J,H,rfl,_⟩:=ae.shape;rw[aL] at ae ah ⊢;have key: ∀k,(δ (ϊ ⟨g,0,ϋ⟩) (d+1) cap).ownBlock=ϊ k->k=g:=λk U=>by injection U with U;exact U.symm
  have bx:w'.heap[R]? =ϊ (.cells (yD b (δ (ϊ ⟨g,0,ϋ⟩) (d+1) cap)) 235 (0,0)):=aF.o.blk;exact⟨J,H,rfl,ae,a3.blk bx (λx=>aK (key _ x).symm),a3.blk bm.o (λx=>by have:=key _ x;omega),a3.blk bn.o (λx=>by have:=key _ x;omega),qk.old bl.o a3 (λk U=>ϐ (key _ U)),ah⟩
 have aX:=κ ax;have aU:=κ au;clear bc av ay be bf au bz aw aL;cases hbg:b.begun with
 | false=>
  have ai:=κ hbg;clear hbg
  go_enter func178,ntmps178
  go_wp2_with (first | (go_at_call 235;(go_call aV.o _ aX.o.symm as e Y ⟨J,H,rfl,ae,N,ap,aj,a3,ah⟩;have aA:=κ N;have aC:=κ ap;have aD:=κ aj;have aH:=κ ae;have az:=κ a3;have ao:=κ ah;unfold yD at N;rw[ai.o] at N;have aQ:=qi N 2 rfl;have aT:=ql N 2;have aR:=qi N 3 rfl;have z3:=ql N 3;have aS:=qi aj 0 rfl;clear N ap aj a3 ah ae)) | (go_at_call 237;(go_call YW I _ as e w5 ⟨rfl,ag⟩;have G:=qj ag (qt aA.o 2 (δ J d H));have O:=qj ag (qs aC.o ⟨R,2,ϋ⟩ (δ J d H) (by simp;omega));have ad:=qj ag (qs aD.o ⟨R,2,ϋ⟩ (δ J d H) (by simp;omega));have aB:=κ G;have aE:=κ O;have bL:=κ ad;have ac:=κ ag;unfold yD at G;rw[ai.o] at G;have bI:=qi G 3 rfl;have bJ:=qi G 4 rfl;have bK:=qi G 5 rfl;have bD:=ql G 3;have bE:=ql G 4;have bF:=ql G 5;have bG:=qi O 0 rfl;have bH:=qi O 1 rfl;have p2:=qi O 2 rfl;have br:=ql O 0;have bs:=ql O 1;have bt:=ql O 2;have t0:=qi ad 0 rfl;have t1:=qi ad 1 rfl;have t2:=qi ad 2 rfl;clear G O ad ag aQ aT aR z3 aS)))
  have ar:yx w5 (R+1) (δ J d H) T:=(aH.o.away ((qk.refl (λk=>k=R) Y).set (p:=⟨R,2,ϋ⟩) rfl (δ J d H)) (λk U x=>by rw[ao.o] at U;injection U with U;omega)).more ac.o;have aq:qk (λk=>k=R∨k=g) w w5:=((az.o.mono λk U=>ϓ U).trans ((qk.refl (λk=>k=R∨k=g) Y).set (p:=⟨R,2,ϋ⟩) (ϐ rfl) (δ J d H))).more ac.o;obtain⟨WF,ak⟩:=ν (((((((w5.setCell ⟨R,4,ϋ⟩ (ι I)).setCell ⟨R,5,ϋ⟩ (ψ 1)).setCell ⟨R,3,ϋ⟩ (μ ό)).setCell ⟨w.heap.size,0,ϋ⟩ (ι I)).setCell ⟨w.heap.size,1,ϋ⟩ (ι aa)).setCell ⟨w.heap.size,2,ϋ⟩ (ι ab)));obtain⟨aN,aO,aP,st⟩:=YE (cap:=cap) aU.o (show gC b I=(I,1) by unfold gC;rw[ai.o];rfl) aB.o aE.o ar ao.o aq (ϕ _) bb aK bd ak;rw[ak];clear ak ar aq
  (refine bodyPost_ret (v:= θ #[ι I,ι aa,ι ab]) ?rr1 rfl ?_;(case rr1=>(simp[results,results178,go_sem,aN,aO,aP])))
  exact⟨rfl,_,st⟩
 | true=>
  have ai:=κ hbg;clear hbg
  go_enter func178,ntmps178
  go_wp2_with (go_at_call 235;(go_call aV.o _ aX.o.symm as e Y ⟨J,H,rfl,ae,N,ap,aj,a3,ah⟩;have aA:=κ N;have aC:=κ ap;have aD:=κ aj;have aH:=κ ae;have az:=κ a3;have ao:=κ ah;unfold yD at N;rw[ai.o] at N;have aQ:=qi N 2 rfl;have aT:=ql N 2;have aR:=qi N 3 rfl;have z3:=ql N 3;have aS:=qi aj 0 rfl;clear N ap aj a3 ah ae))
  generalize am:Y.setCell ⟨R,2,ϋ⟩ (δ J d H)=w4 at *;have aI:w4.heap[R]? =ϊ (.cells ((yD b (δ (ϊ ⟨g,0,ϋ⟩) (d+1) cap)).setIfInBounds 2 (δ J d H)) 235 (0,0)):=by rw[<-am];exact qt aA.o 2 _
  have ba:w4.heap[w.heap.size]? =ϊ (.cells #[ι 0,ι 0,ι 0] 338 (0,0)):=by rw[<-am];exact qs aC.o ⟨R,2,ϋ⟩ (δ J d H) (by simp;omega)
  have aJ:w4.heap[w.heap.size+1]? =ϊ (.cells #[ι I,ι aa,ι ab] 338 (0,0)):=by rw[<-am];exact qs aD.o ⟨R,2,ϋ⟩ (δ J d H) (by simp;omega)
  have bg:yx w4 (R+1) (δ J d H) T:=by
   rw[<-am];exact aH.o.away ((qk.refl (λk=>k=R) Y).set (p:=⟨R,2,ϋ⟩) rfl (δ J d H)) (λk U x=>by rw[ao.o] at U;injection U with U;omega)
  have a4:qk (λk=>k=R∨k=g) w w4:=by
   rw[<-am];exact(az.o.mono λk U=>ϓ U).trans ((qk.refl (λk=>k=R∨k=g) Y).set (p:=⟨R,2,ϋ⟩) (ϐ rfl) (δ J d H))
  have bi:=κ aI;have bj:=κ ba;have bk:=κ aJ;have bo:=κ bg;have bh:=κ a4;have aG:=λ(x:qu w4)=>qj x.h aI
  have c4:=λx=>β4 (aG x);have c5:=λx=>β5 (aG x);clear aG
  have c1:=λ(x:qu w4)=>β0 (qj x.h aJ)
  clear aI ba aJ bg a4 am aQ aT aR z3 aS;refine Qn w4 10 11 [7,8,10] ?_
  refine Qq7 ?_
  (refine Ql ?_;intro K af)
  refine(QO b.hi b.bits I bB bA aM.bits _).mono ?_;rintro e w5 ⟨rfl,ag⟩;have ac:qh w4 w5:=(qh.drewN w4 1).trans ag;refine⟨_,rfl,qo ac,af _ _ ?_⟩;clear af K ag
  (refine Ql ?_;intro K af)
  refine⟨qo ac,af _ _ ?_⟩;clear af K
  refine Qq1 ?_
  have G:=qj ac bi.o;have O:=qj ac bj.o;have ad:=qj ac bk.o;have aB:=κ G;have aE:=κ O;have aW:=κ ac;unfold yD at G;rw[ai.o] at G;have bI:=qi G 3 rfl;have bJ:=qi G 4 rfl;have bK:=qi G 5 rfl;have bD:=ql G 3;have bE:=ql G 4;have bF:=ql G 5;have bG:=qi O 0 rfl;have bH:=qi O 1 rfl;have p2:=qi O 2 rfl;have br:=ql O 0;have bs:=ql O 1;have bt:=ql O 2;have t0:=qi ad 0 rfl;have t1:=qi ad 1 rfl;have t2:=qi ad 2 rfl;clear G O ad ac c4 c5 c1
  (refine Qe ?_;intro K af)
  refine af _ _ ?_;clear af K;refine qD ?_;go_wp2;have ar:yx w5 (R+1) (δ J d H) T:=bo.o.more aW.o;have aq:qk (λk=>k=R∨k=g) w w5:=bh.o.more aW.o;obtain⟨WF,ak⟩:=ν (((((((w5.setCell ⟨R,4,ϋ⟩ (ι (zW b.hi b.bits I).1)).setCell ⟨R,5,ϋ⟩ (ψ (zW b.hi b.bits I).2)).setCell ⟨R,3,ϋ⟩ (μ ό)).setCell ⟨w.heap.size,0,ϋ⟩ (ι I)).setCell ⟨w.heap.size,1,ϋ⟩ (ι aa)).setCell ⟨w.heap.size,2,ϋ⟩ (ι ab)));obtain⟨aN,aO,aP,st⟩:=YE (cap:=cap) aU.o (show gC b I=((zW b.hi b.bits I).1,(zW b.hi b.bits I).2) by unfold gC;rw[ai.o];rfl) aB.o aE.o ar ao.o aq (ϕ _) bb aK bd ak;rw[ak];clear ak ar aq
  (refine bodyPost_ret (v:= θ #[ι I,ι aa,ι ab]) ?rr2 rfl ?_;(case rr2=>(simp[results,results178,go_sem,aN,aO,aP])))
  exact⟨rfl,_,st⟩
end
section
open Go.RowKit Go.Lib
def atJ (L:List Hd) (n:Int):Nat:=L.findIdx λk=>decide (n<k.1)
def uH (L:List Hd) (h:Hd):List Hd:=L.take (atJ L h.1)++h::L.drop (atJ L h.1)
def XN (b:Jb) (n:Int):Bool:=b.holds.any λk=>k.1==n
def jB (b:Jb) (n now x:Int):Jb×Int:=
 if XN b n||(b.begun&&yK b.hi b.bits n) then (b,10)
 else if b.begun&&decide (n<b.hi+1) then (b,9)
 else if b.room<=b.holds.length then (b,8)
 else ({b with holds:=uH b.holds (n,now,x)},0)
def UX (L:List Hd) (n:Int):atJ L n<=L.length:=List.findIdx_le_length
def IW (L:List Hd) (n:Int):(Xj (λk=>decide (n<k.1)) L=(atJ L n:Int)/\atJ L n<L.length)∨(Xj (λk=>decide (n<k.1)) L= -1/\atJ L n=L.length):=by
 unfold Xj;have:=UX L n;unfold atJ at *;by_cases h:L.findIdx (λk=>decide (n<k.1))<L.length
 ·left;rw[ϒ h];exact⟨rfl,h⟩
 ·right;rw[ώ h];exact⟨rfl,τ⟩
def kK.keep {b:Jb} (m:qh w w') (d:zC w' R v b):kK w w' R v v b:=⟨d,qk.of_more m,ϐ rfl⟩
end
section
open Go.RowKit Go.Lib
def Eu {w10 G:World} {b:Jb} {H:Option Addr} {cap:Nat} (J:zC w10 R (δ H b.holds.length cap) b) (U:qh w w10) (ac:R<w.heap.size)
  (I:qk (λk=>(δ H b.holds.length cap).ownBlock=ϊ k) w10 G) (O:yx G (R+1) v' (uH b.holds h)) (ab:v'.ownBlock=(δ H b.holds.length cap).ownBlock∨ ∃g,v'.ownBlock=ϊ g/\w.heap.size<=g):
  kK w (G.setCell ⟨R,2,ϋ⟩ v') R (δ H b.holds.length cap) v' {b with holds:=uH b.holds h}:=by
 have Y:(δ H b.holds.length cap).ownBlock≠ϊ R:=λe=>by have:=(J.row.own_ge e).1;omega
 have aa:v'.ownBlock≠ϊ R:=λe=>by have:=(O.own_ge e).1;omega
 have N:qk (λk=>k=R) G (G.setCell ⟨R,2,ϋ⟩ v'):=(qk.refl (λk=>k=R) G).set (p:=⟨R,2,ϋ⟩) rfl v';refine⟨⟨qF (qt (I.blk J.blk Y) 2 v') rfl,O.away N (λk d x=>aa (by rw[<-x];exact d))⟩, ?_,ab⟩;exact qk.old U ((I.mono λk d=>ϓ d).trans (N.mono λk d=>ϐ d)) λk d=>ϐ d
def FX (b:Jb) (ok:JOK b) (R:Nat) (v:Value) (n d x:Int) (bc:xQ n) (w:World) (ab:zC w R v b):
  Calls prog 194 #[γ R,ι n,ι d,ι x] w λbC w'=>bC= .returned (ι (jB b n d x).2)/\ ∃v',kK w w' R v v' (jB b n d x).1:=by
 have bp:Hid (b.room<=b.holds.length∨b.holds.length<=8):=κ (by have:=ok.fits;have:=ok.room;omega);have bF:=wT bc;have bG:=wT ok.hi;obtain⟨bR,bS⟩:=ok.hi;obtain⟨bV,bW⟩:=bc;have bu:=κ ok.bits;have ac:=κ (ab.on (qh.alloc w (.cells #[ι n] 2)));have aM:=qp w (.cells #[ι n] 2);have aT:=κ aM;have ax:=wl b R v _ ac.o ok.hi;have aS:=κ (qh.alloc w (.cells #[ι n] 2));have am: ∀args w,(callFunc 246 args).run prog w= .ok (.enter 246 args) w:=λargs w=>by kernel_rfl
 have bn: ∀args w,(callFunc 247 args).run prog w= .ok (.enter 247 args) w:=λargs w=>by kernel_rfl
 have ao:Hid (Yj 246 #[γ w.heap.size] (λk=>k.1==n) b.holds (w.alloc (.cells #[ι n] 2))):=κ λW' y _ m=>AP n _ y W' (qj m aM)
 obtain⟨_,_,c2,_,_,_⟩:=ac.o.cells ⟨_,qh.refl _⟩;have bQ:w.heap.size≠R:=λe=>by have:=lt_of_block ab.blk;omega
 obtain⟨G,cap,rfl,bU⟩:=ab.row.shape;obtain⟨bl,aK⟩:=ν (XN b n);obtain⟨Y,aH⟩:=ν (b.begun);rw[aH] at ax;obtain⟨bj,aJ⟩:=ν ((if Y=ό then b.hi+1 else 0));rw[aJ] at ax;have bt:=κ ax;have bs:=κ aJ;have an:=κ aH;obtain⟨bg,ba⟩:=ν (yK b.hi b.bits n);have ag:=κ ba;clear ax aJ ba;have aR:Hid ((b.holds.any λk=>k.1==n)=bl):=κ aK;have ai:=κ aK;have br:Hid ((δ G b.holds.length cap).ownBlock≠ϊ w.heap.size):=κ (λe=>by have:=(ab.row.own_ge e).2;omega);have aQ:=κ (lt_of_block ab.blk);have aA:Hid (∀(e:Int) (aC:World),jB b n d x=(b,e)->zC aC R (δ G b.holds.length cap) b->qh w aC->(Ending.returned (ι e)= .returned (ι (jB b n d x).2)/\ ∃v',kK w aC R (δ G b.holds.length cap) v' (jB b n d x).1)):=κ (λe aC aa ak bD=>by rw[aa];exact⟨rfl,_,kK.keep bD ak⟩);clear ab aM aH aK
 go_enter func194,ntmps194
 go_upto_block 0 with (go_at_call 172;(go_call bt.o as bP w1 ⟨rfl,rfl⟩))
 go_cut [] from 21 to 82 (λN=>zC N R (δ G b.holds.length cap) b/\N.heap[w.heap.size]? =ϊ (.cells #[ι n] 2)/\qh w N/\jB b n d x=({b with holds:=uH b.holds (n,d,x)},0)/\ ¬b.room<=b.holds.length)
 case first=>
  cases bl
  ·go_upto_region 5 with (go_at_call 173;(go_call xK _ _ (λk=>k.1==n) am b.holds _ (R+1) _ ac.o.row ao.o as aG w2 ⟨rfl,J⟩;rw[aR.o];have O:=κ (ac.o.on J);have au:=κ (qj J aT.o);have aq:=κ (aS.o.trans J);clear J))
   clear ao c2 am;have bA:=λ(x:qu w2)=>β0 (qj x.h au.o)
   have c4: ∀x:qu w2,x.w'.cell? ⟨R,4,ϋ⟩=ϊ (ι b.hi):=λx=>(O.o.cells x).2.2.2.2.1
   have c5: ∀x:qu w2,x.w'.cell? ⟨R,5,ϋ⟩=ϊ (ψ b.bits):=λx=>(O.o.cells x).2.2.2.2.2
   have aN:Hid (∀W:World,Calls prog 248 #[θ #[ι b.hi,ψ b.bits],ι n] W λe w'=>e= .returned (μ bg)/\qh W w'):=κ λW=>by rw[<-ag.o];exact Lv b.hi b.bits n bG bF bu.o W
   obtain⟨q,be⟩:=ν ((Y&&bg));have ah:=κ be;clear be
   go_cut [21] from 28 to 82 (λv N=>v= μ q/\qh w2 N)
   case first=>
    cases Y
    all_goals
     refine qG w2 (qh.refl _) ξ ξ ?_
     repeat (go_big_quiet_step ((go_at_call 248;with_reducible exact xn (aN.o _))))
     refine wpQuiet_nil ?_;intro _ aL;obtain⟨bm,rfl⟩:=aL;have aj:=κ bm.h;generalize bm.w'=w5 at *;go_wp2;go_meet;exact⟨by rw[<-ah.o];simp,aj.o⟩
   case rest=>
   obtain⟨rfl,aw⟩:=hcut;have af:=κ (O.o.on aw);have aU:=κ (qj aw au.o);have aj:=κ (aq.o.trans aw);clear aw bA c4 c5 O au aq aN;cases q
   ·have bB:=β0 aU.o;obtain⟨aB,bf⟩:=ν ((Y&&decide (n<bj)));have ap:=κ bf;clear bf;have aE:Hid ((Y&&decide (n<b.hi+1))=aB):=κ (by rw[<-ap.o,<-bs.o];cases Y<;>simp)
    go_upto_region 7 with fail
    go_cut [37] from 38 to 82 (λv N=>v= μ aB/\wc=N)
    case first=>
     cases Y
     ·go_wp2;go_meet;exact⟨by rw[<-ap.o];rfl,rfl⟩
     ·by_cases hl:n<bj
      ·go_wp2;go_meet;exact⟨by rw[<-ap.o];simp[hl],rfl⟩
      ·go_wp2;go_meet;exact⟨by rw[<-ap.o];simp[hl],rfl⟩
    case rest=>
    obtain⟨rfl,rfl⟩:=hcut;cases aB
    ·go_upto_region 9 with fail
     have bz: ∀x:qu wc,x.w'.cell? ⟨R,0,ϋ⟩=ϊ (ι b.room):=λx=>(af.o.cells x).1
     have c2: ∀x:qu wc,x.w'.cell? ⟨R,2,ϋ⟩=ϊ (δ G b.holds.length cap):=λx=>(af.o.cells x).2.2.1
     by_cases hf:b.room<=b.holds.length
     all_goals
      refine qG wc (qh.refl _) ξ ξ ?_
      repeat (go_big_quiet_step (fail))
      refine wpQuiet_nil ?_;intro _ aL;obtain⟨aD,rfl⟩:=aL;have ad:=κ (af.o.on aD.h);have av:=κ (qj aD.h aU.o);have ar:=κ (aj.o.trans aD.h);clear bz c2 bB;generalize aD.w'=w9 at *
     ·have I:=κ (show jB b n d x=(b,8) by unfold jB;rw[ai.o,an.o,ag.o,ah.o,aE.o,ώ ζ,ώ ζ,ϒ hf]);go_wp2;go_ret;exact aA.o _ _ I.o ad.o ar.o
     ·go_wp2;go_meet;exact⟨ad.o,av.o,ar.o,by unfold jB;rw[ai.o,an.o,ag.o,ah.o,aE.o,ώ ζ,ώ ζ,ώ τ],τ⟩
    ·have I:=κ (show jB b n d x=(b,9) by unfold jB;rw[ai.o,an.o,ag.o,ah.o,aE.o];rfl);go_wp2;go_ret;exact aA.o _ _ I.o af.o aj.o
   ·have I:=κ (show jB b n d x=(b,10) by unfold jB;rw[ai.o,an.o,ag.o,ah.o];rfl);go_wp2;go_ret;exact aA.o _ _ I.o af.o aj.o
  ·have I:=κ (show jB b n d x=(b,10) by unfold jB;rw[ai.o];rfl)
   go_wp2_with (go_at_call 173;(go_call xK _ _ (λk=>k.1==n) am b.holds _ (R+1) _ ac.o.row ao.o as aG w2 ⟨rfl,J⟩;rw[aR.o];have O:=κ (ac.o.on J);have au:=κ (qj J aT.o);have aq:=κ (aS.o.trans J);clear J))
   go_ret;exact aA.o _ _ I.o O.o aq.o
 case rest=>
 obtain⟨aY,bi,bh,aZ,bE⟩:=hcut;have ad:=κ aY;have av:=κ bi;have ar:=κ bh;have I:=κ aZ;have bq:Hid (b.holds.length<=8):=κ (bp.o.resolve_left τ);obtain⟨_,_,aG,_,_,_⟩:=ad.o.cells ⟨_,qh.refl _⟩;have bo:Hid (Yj 247 #[γ w.heap.size] (λk=>decide (n<k.1)) b.holds wc):=κ λW' y _ m=>Gu n _ y W' (qj m av.o)
 clear aY bi bh aZ bE c2 ao am;have aO:=κ (gB _ _ (λk=>decide (n<k.1)) bn b.holds _ (R+1) _ ad.o.row bo.o);obtain⟨bI,aI⟩:=ν (Xj (λk=>decide (n<k.1)) b.holds);rw[aI] at aO;have aP:=κ aI;clear aI
 go_upto_region 12 with (go_at_call 231;(go_call aO.o as aX w10 ⟨rfl,ay⟩;have U:=κ (ad.o.on ay);have bv:=κ (qj ay av.o);have aF:=κ (ar.o.trans ay);obtain⟨_,_,aX,_,_,_⟩:=U.o.cells ⟨_,qh.refl _⟩;clear ay aG))
 obtain⟨bX,bb⟩:=ν (decide (bI<0));have bN:=κ bb;clear bb
 go_upto_if 62 with fail
 go_cut [13] from 63 to 82 (λv N=>v= ι (atJ b.holds n:Int)/\w10=N)
 case first=>
  rcases IW b.holds n with ⟨aa,ak⟩ | ⟨aa,ak⟩
  ·rw[aP.o] at aa;subst aa;have bT: ¬((atJ b.holds n:Nat):Int)<0:=by omega
   go_wp2;go_meet;exact⟨rfl,rfl⟩
  ·rw[aP.o] at aa;subst aa;have O:=κ ak;clear ak;go_wp2;go_meet;exact⟨by rw[O.o],rfl⟩
 case rest=>
 obtain⟨rfl,rfl⟩:=hcut
 go_upto_region 14 with fail
 have bd:(δ G b.holds.length cap).ownBlock≠ϊ R:=λe=>by have:=(U.o.row.own_ge e).1;omega
 have bH:(δ G b.holds.length cap).ownBlock≠ϊ w.heap.size:=br.o;have c2:=λ(x:qC (λk=>(δ G b.holds.length cap).ownBlock=ϊ k) w10)=>β2 (x.h.blk U.o.blk bd)
 have c5:=λ(x:qC (λk=>(δ G b.holds.length cap).ownBlock=ϊ k) w10)=>β0 (x.h.blk bv.o bH)
 clear aX;refine QN (λk=>(δ G b.holds.length cap).ownBlock=ϊ k) w10 14 15 [10,11,12,14] ?_
 refine He ?_
 (refine Ql ?_;intro K H)
 have az:qh w10 ((w10.drewN 1).alloc (.cells #[ι n,ι d,ι x] 338)):=(qh.drewN w10 1).al _;have aV:qk (λk=>(δ G b.holds.length cap).ownBlock=ϊ k) w10 ((w10.drewN 1).alloc (.cells #[ι n,ι d,ι x] 338)):=qk.of_more az;refine⟨qn aV,H _ _ ?_⟩;clear H K
 (refine Ql ?_;intro K H)
 have bw:V2 b.holds (n,d,x) (δ G b.holds.length cap) (R+1) ((w10.drewN 1).alloc (.cells #[ι n,ι d,ι x] 338)) w10.heap.size:=⟨U.o.row.more az,by have:=aF.o.size;have:=az.size;have:=aQ.o;omega,by have:=bq.o;omega,qH (w:=w10.drewN 1) rfl,λe=>by have:=(U.o.row.own_ge e).2;omega⟩;refine(Gp b.holds (atJ b.holds n) (UX _ _) (n,d,x) _ (R+1) _ _ bw).mono ?_;rintro e bM ⟨v',rfl,bL,bx,bJ⟩;have ae:=aV.trans bx;have bk:yx bM (R+1) v' (uH b.holds (n,d,x)):=by
  unfold uH;exact bL
 have bK:v'.ownBlock=(δ G b.holds.length cap).ownBlock∨ ∃g,v'.ownBlock=ϊ g/\w.heap.size<=g:=bJ.elim ϐ λh=>ϓ ⟨_,h,by have:=aF.o.size;have:=az.size;omega⟩
 obtain⟨bY,bO,rfl,_⟩:=bk.shape;refine⟨_,rfl,qn ae,H _ _ ?_⟩;clear H K
 (refine Ql ?_;intro K H)
 refine⟨qn ae,H _ _ ?_⟩;clear H K
 iterate 1 (refine qz rfl rfl (qn ae) ?_;intro K H;go_big_quiet_op;go_big_quiet_on)
 have aW:=ae.blk U.o.blk bd;have aB:=qi aW 2 rfl;have bZ:=ql aW 2
 (refine Qe ?_;intro K H)
 refine H _ _ ?_;clear H K;refine qD ?_;go_wp2;go_ret;exact⟨by rw[I.o];rfl,_,by rw[I.o];exact Eu U.o aF.o aQ.o ae bk bK⟩
end
section
open Go.RowKit Go.Lib
def KF (L:List Hd) (h:Hd):(uH L h).length=L.length+1:=by
 unfold uH;have:=UX L h.1;rw[Ϗ,Ϙ,ϛ,Ϡ];omega
def QI (L:List Hd) (h k:Hd):k∈uH L h↔k=h∨k∈L:=by
 unfold uH;rw[ϥ,ϫ]
 conv=>rhs;rw[<-A5 (atJ L h.1) L,ϥ]
 constructor
 ·rintro(a | a | a)
  ·exact ϓ (ϐ a)
  ·exact ϐ a
  ·exact ϓ (ϓ a)
 ·rintro(a | a | a)
  ·exact ϓ (ϐ a)
  ·exact ϐ a
  ·exact ϓ (ϓ a)
def Ab (k:Hd) (L:List Hd) (h:Hd):uH (k::L) h=if h.1<k.1 then h::k::L else k::uH L h:=by
 unfold uH atJ;rw[List.findIdx_cons];by_cases e:h.1<k.1
 ·simp[e]
 ·simp[e]
def YH: ∀(L:List Hd) (h:Hd),(L.Pairwise λa c=>a.1<c.1)->(∀k∈L,¬k.1=h.1)->(uH L h).Pairwise λa c=>a.1<c.1
 | [],h,_,_=>by simp[uH,atJ]
 | k::L,h,hp,hn=>by
  rw[K7] at hp;rw[Ab];by_cases e:h.1<k.1
  ·rw[ϒ e,K7,K7];refine⟨λc d=> ?_,hp.1,hp.2⟩;rcases ϫ.1 d with rfl | d
   ·exact e
   ·exact Int.lt_trans e (hp.1 c d)
  ·rw[ώ e,K7];have:=hn k ϣ;refine⟨λc d=> ?_,YH L h hp.2 λc d=>hn c (Ϧ _ d)⟩;rcases(QI L h c).1 d with rfl | d
   ·omega
   ·exact hp.1 c d
def Dm (b:Jb) (n:Int):XN b n=ύ↔ ∀k∈b.holds,¬k.1=n:=by
 unfold XN;rw[M0];constructor
 ·intro h k d e;exact h k d (by simpa using e)
 ·intro h k d e;exact h k d (by simpa using e)
def Wu (b:Jb) (n d x:Int):((jB b n d x).1=b/\(jB b n d x).2≠0)∨
  (jB b n d x=({b with holds:=uH b.holds (n,d,x)},0)/\XN b n=ύ/\(b.begun=ό->b.hi<n)/\(b.holds.length:Int)<b.room):=by
 unfold jB;by_cases h1:(XN b n||(b.begun&&yK b.hi b.bits n))=ό
 ·rw[ϒ h1];exact ϐ ⟨rfl,show (10:Int)≠0 by decide⟩
 ·rw[ώ h1];by_cases h2:(b.begun&&decide (n<b.hi+1))=ό
  ·rw[ϒ h2];exact ϐ ⟨rfl,show (9:Int)≠0 by decide⟩
  ·rw[ώ h2];by_cases h3:b.room<=b.holds.length
   ·rw[ϒ h3];exact ϐ ⟨rfl,show (8:Int)≠0 by decide⟩
   ·rw[ώ h3];refine ϓ ⟨rfl, ?_, ?_,τ⟩
    ·cases hs:XN b n with
     | false=>rfl
     | true=>rw[hs] at h1;simp at h1
    ·intro G;rw[G] at h2;simp at h2;omega
def Ib {b:Jb} (d:JOK b) {n H x:Int} (O:xQ n) (U:xQ H):JOK (jB b n H x).1:=by
 rcases Wu b n H x with ⟨h,_⟩ | ⟨h,J,N,Y⟩
 ·rw[h];exact d
 ·rw[h];refine⟨d.room,d.wait, ?_,λk G=> ?_,YH _ _ d.rise ((Dm b n).1 J),d.hi,d.bits,λI k G=> ?_⟩
  ·show ((uH b.holds (n,H,x)).length:Int)<=b.room;rw[KF];omega
  ·rcases(QI _ _ k).1 G with rfl | G
   ·exact⟨O,U⟩
   ·exact d.nums k G
  ·rcases(QI _ _ k).1 G with rfl | G
   ·exact N I
   ·exact d.over I k G
def KC {b:Jb} (d:JOK b) (G:b.holds=h::T):JOK (jV b):=by
 have O:=d.nums h (by rw[G];exact ϣ);have I:=d.rise;rw[G,K7] at I;have e:jV b={b with holds:=T,begun:=ό,hi:=(gC b h.1).1,bits:=(gC b h.1).2}:=by unfold jV;rw[G]
 have J:(gC b h.1).1=h.1:=by
  unfold gC;split
  ·rename_i N;rw[Jv];have:=d.over N h (by rw[G];exact ϣ);omega
  ·rfl
 rw[e];refine⟨d.room,d.wait, ?_,λk H=>d.nums k (by rw[G];exact Ϧ _ H),I.2, ?_, ?_,λ_ k H=> ?_⟩
 ·have:=d.fits;rw[G,Ϙ] at this;show ((T.length:Nat):Int)<=b.room;omega
 ·show xQ (gC b h.1).1;rw[J];exact O.1
 ·show U64 (gC b h.1).2;unfold gC;split
  ·exact Ky _ _ _ d.bits
  ·exact(show U64 1 from ⟨ζ,ζ⟩)
 ·show (gC b h.1).1<k.1;rw[J];exact I.1 k H
end
section
open Go.RowKit Go.Lib
def zP (b:Jb) (now:Int):Jb×Int×Int×Bool:=match b.holds with
 | []=>(b,0,0,ύ)
 | h::_=>if jU b now then (jV b,h.1,h.2.2,ό) else (b,0,0,ύ)
def Li (b:Jb) (af:JOK b) (R:Nat) (v:Value) (d:Int) (ak:xQ d) (w:World) (N:zC w R v b):
  Calls prog 133 #[γ R,ι d] w λe w'=>e= .returned (.tuple #[ι (zP b d).2.1,ι (zP b d).2.2.1,μ (zP b d).2.2.2])/\ ∃v',kK w w' R v v' (zP b d).1:=by
 have ab:=κ N;have ac:=κ (YS b af R v d ak w N);cases hr:jU b d with
 | false=>
  have J:zP b d=(b,0,0,ύ):=by
   unfold zP;cases b.holds with
   | nil=>rfl
   | cons h T=>simp only[hr];rfl
  rw[J];have U:=κ hr;clear J hr N
  go_enter func133,ntmps133
  go_wp2_with (go_at_call 119;(go_call ac.o as e w1 ⟨rfl,G⟩;rw[U.o];have H:=κ G;clear G))
  refine bodyPost_ret (v:= .tuple #[ι 0,ι 0,ύ]) (by simp[results,results133,go_sem]) rfl ?_;exact⟨rfl,v,kK.keep H.o (ab.o.on H.o)⟩
 | true=>
  obtain⟨h,T,I⟩: ∃h T,b.holds=h::T:=by
   cases I:b.holds with
   | nil=>unfold jU at hr;rw[I] at hr;cases hr
   | cons h T=>exact⟨h,T,rfl⟩
  have J:zP b d=(jV b,h.1,h.2.2,ό):=by
   unfold zP;rw[I];simp only[hr];rfl
  rw[J];have U:=κ hr;have ah:=κ I;clear J hr N I
  go_enter func133,ntmps133
  go_wp2_with (first | (go_at_call 119;(go_call ac.o as e w1 ⟨rfl,G⟩;rw[U.o];have H:=κ G;have ag:=κ (ab.o.on G);clear G)) | (go_at_call 178;(go_call YV b h T ah.o af R v _ ag.o as e w2 ⟨rfl,am,st⟩;have aa:=κ st;clear st)))
  obtain⟨W,O⟩: ∃W,W=w2.alloc (.cells #[ι h.1,ι h.2.1,ι h.2.2] 338):=⟨_,rfl⟩;have ae:W.heap[w2.heap.size]? =ϊ (.cells #[ι h.1,ι h.2.1,ι h.2.2] 338 (0,0)):=by rw[O];exact qp w2 _
  have ad:qh w2 W:=by rw[O];exact qh.alloc w2 _
  have Y:=λ(x:qu W)=>qj x.h ae
  have ao:=λx=>β0 (Y x);have c2:=λx=>β2 (Y x);clear Y
  have ai:=κ ad;rw[<-O];clear O ae ad;generalize w2.heap.size=BX at *;refine qG W (qh.refl _) ξ ξ ?_
  repeat (go_big_quiet_step (fail))
  refine wpQuiet_nil ?_;intro _ al;obtain⟨an,rfl⟩:=al;go_wp2;refine bodyPost_ret (v:= .tuple #[ι h.1,ι h.2.2,ό]) (by simp[results,results133,go_sem]) rfl ?_;have m:=ai.o.trans an.h;refine⟨rfl,am,aa.o.buf.on m, ?_, ?_⟩
  ·exact qk.old H.o (aa.o.away.more m) λk aj=>ϐ aj
  ·exact aa.o.own.elim ϐ λ⟨g,a,c⟩=>ϓ ⟨g,a,ϙ H.o.size c⟩
def gi (room wait:Int):Prop:=1<=room/\room<=8/\0<=wait/\wait<=1000
instance (r w:Int):Decidable (gi r w):=by unfold gi;infer_instance
def F9 (room wait:Int):Jb:=⟨room,wait,[],ύ,0,0⟩
def Im {room d:Int} (h:gi room d):JOK (F9 room d):=
 ⟨⟨h.1,h.2.1⟩,⟨h.2.2.1,h.2.2.2⟩,(by show ((0:Nat):Int)<=room;have:=h.1;omega),λk G=>(by cases G),List.Pairwise.nil,(show xQ 0 from ⟨ζ,ζ⟩),(show U64 0 from ⟨ζ,ζ⟩),λe=>(by cases e)⟩
def NE (room d:Int) (w:World) (h: ¬gi room d):
  Calls prog 41 #[ι room,ι d] w λe w'=>e= .returned (.tuple #[π ϋ,ι 1])/\w=w':=by
 by_cases h1:room<1
 ·clear h
  go_enter func41,ntmps41
  go_wp2
  go_ret2
  exact⟨rfl,rfl⟩
 ·by_cases h2:8<room
  ·clear h
   go_enter func41,ntmps41
   go_wp2
   go_ret2
   exact⟨rfl,rfl⟩
  ·by_cases h3:d<0
   ·clear h
    go_enter func41,ntmps41
    go_wp2
    go_ret2
    exact⟨rfl,rfl⟩
   ·have G:1000<d:=by unfold gi at h;omega
    clear h
    go_enter func41,ntmps41
    go_wp2
    go_ret2
    exact⟨rfl,rfl⟩
def Vy (room d:Int) (w:World) (h:gi room d):
  Calls prog 41 #[ι room,ι d] w λe w'=>e= .returned (.tuple #[γ w.heap.size,ι 0])/\zC w' w.heap.size (δ ϋ 0 0) (F9 room d)/\qh w w'/\w.heap.size<w'.heap.size:=by
 obtain⟨G,H,I,J⟩:=h;have N: ¬room<1:=by omega
 have O: ¬8<room:=by omega
 have U: ¬d<0:=by omega
 have Y: ¬1000<d:=by omega
 clear G H I J
 go_enter func41,ntmps41
 go_wp2
 go_ret2
 exact⟨rfl,⟨qp w _,World.ownsRow_nil _ _ _ _⟩,qh.alloc w _,η⟩
end
section
open Go.RowKit Go.Lib
def WG {size n:Nat} (h:w.ownsRow base e size v n xs) (a:qk S w w') (H: ∀k,v.ownBlock=ϊ k-> ¬S k):w'.ownsRow base e size v n xs:=by
 obtain⟨d,G⟩:=h;refine⟨d, ?_⟩;rcases G with h | ⟨g,cap,cur,e1,hb,hg,rest⟩
 ·exact ϐ h
 ·exact ϓ ⟨g,cap,cur,e1,hb,a.blk hg (H g (by rw[e1];rfl)),rest⟩
structure DrJ (w0 wr:World) (R:Nat) (v0 v:Value) (b:Jb) (v3:Value) (A:List Int):Prop where
 buf:zC wr R v b
 ok:JOK b
 row:wr.ownsRow w0.heap.size 3 1 v3 A.length (A.map (Value.int .i64))
 away:qk (λk=>k=R∨v0.ownBlock=ϊ k) w0 wr
 own:v.ownBlock=v0.ownBlock∨ ∃g,v.ownBlock=ϊ g/\w0.heap.size<=g
 sep: ∀k,v3.ownBlock=ϊ k->v.ownBlock≠ϊ k
def DrJ.step {H wr:World} {v0 v3:Value} {b:Jb} (G:DrJ H wr R v0 v b v3 A) (O:R<H.heap.size) (J:b.holds=h::T) (st:kK wr w' R v v' (jV b)):DrJ H w' R v0 v' (jV b) v3 A:=by
 have N: ∀k,v3.ownBlock=ϊ k->H.heap.size<=k/\k<wr.heap.size:=λk d=>by
  rcases G.row.2 with ⟨rfl,_⟩ | ⟨g,cap,cur,rfl,J,I,_⟩
  ·cases d
  ·obtain rfl:g=k:=by injection d
   exact⟨J,lt_of_block I⟩
 refine⟨st.buf,KC G.ok J,WG G.row st.away λk d x=> ?_, ?_, ?_,λk d e=> ?_⟩
 ·rcases x with x | x
  ·have:=(N k d).1;omega
  ·exact G.sep k d x
 ·have a:qk (λk=>(k=R∨v0.ownBlock=ϊ k)∨H.heap.size<=k) H w':=(G.away.mono λk d=>ϐ d).trans (st.away.mono λk d=>by
   rcases d with d | d
   ·exact ϐ (ϐ d)
   ·rcases G.own with e | ⟨g,e,I⟩
    ·exact ϐ (ϓ (by rw[<-e];exact d))
    ·rw[e] at d;injection d with d
     exact ϓ τ)
  exact qk.old (qh.refl H) a λk d=>d
 ·rcases st.own with e | ⟨g,e,I⟩
  ·rw[e];exact G.own
  ·exact ϓ ⟨g,e,ϙ G.away.size I⟩
 ·rcases st.own with e2 | ⟨g,e2,I⟩
  ·rw[e2] at e;exact G.sep k d e
  ·rw[e2] at e;injection e with e
   have:=(N k d).2;omega
def DrJ.on {G wr:World} {v0 v3:Value} {b:Jb} (d:DrJ G wr R v0 v b v3 A) (m:qh wr w'):DrJ G w' R v0 v b v3 A:=
 ⟨d.buf.on m,d.ok,jJ d.row m,d.away.more m,d.own,d.sep⟩
def DrJ.put {H wr:World} {v0 v3 J:Value} {b:Jb} {A':List Int} (G:DrJ H wr R v0 v b v3 A) (ac:R<H.heap.size) (Y:w'.ownsRow H.heap.size 3 1 J A'.length (A'.map (Value.int .i64))) (I:wr.grownBy w' v3.ownBlock) (aa:J.ownBlock=v3.ownBlock∨J.ownBlock=ϊ wr.heap.size):DrJ H w' R v0 v b J A':=by
 have N: ∀k,v3.ownBlock=ϊ k->H.heap.size<=k:=λk d=>by
  rcases G.row.2 with ⟨rfl,_⟩ | ⟨g,cap,cur,rfl,U,I,_⟩
  ·cases d
  ·obtain rfl:g=k:=by injection d
   exact U
 have a:qk (λk=>v3.ownBlock=ϊ k) wr w':=⟨I.os,I.tape,I.output,I.size,λk d ab=>I.block k d (λe=>ab e.symm)⟩;refine⟨⟨a.blk G.buf.blk λx=>by have:=N R x;omega,G.buf.row.away a λk d x=>G.sep k x d⟩,G.ok,Y, ?_,G.own,λk d e=> ?_⟩
 ·have O:qk (λk=>(k=R∨v0.ownBlock=ϊ k)∨H.heap.size<=k) H w':=(G.away.mono λk d=>ϐ d).trans (a.mono λk d=>ϓ (N k d));exact qk.old (qh.refl H) O λk d=>d
 ·rcases aa with e2 | e2
  ·rw[e2] at d;exact G.sep k d e
  ·rw[e2] at d;injection d with d
   have:=(G.buf.row.own_ge e).2;omega
def NM:Value->Nat
 | .slice _ n _=>n
 | _=>0
def Zv {size n:Nat} (h:w.ownsRow base e size v n xs): ∃oa cap,v= δ oa n cap:=by
 rcases h.2 with ⟨rfl,d⟩ | ⟨g,cap,cur,rfl,_⟩
 ·exact⟨ϋ,0,by rw[d]⟩
 ·exact⟨_,cap,rfl⟩
def Jh:Nat->Jb->Jb
 | 0,b=>b
 | n+1,b=>Jh n (jV b)
def kA (b:Jb):Jb:=Jh b.holds.length b
def thJ (L:List Hd):List Int:=L.map λh=>h.2.2
def Gs (b:Jb) (ok:JOK b) (R:Nat) (v:Value) (w:World) (N:zC w R v b):
  Calls prog 125 #[γ R] w λe w'=> ∃vx,e= .returned vx/\ ∃v',DrJ w w' R v v' (kA b) vx (thJ b.holds)/\(kA b).holds=[]:=by
 have ac:=lt_of_block N.blk;obtain⟨aq,hi,an,ao,ap⟩:=info_parts (P:=prog) (e:=3) (z:= ι 0) (size:=1) (bytes:=8) ξ;have ak:Hid (b.holds.length<=8):=κ (by have:=ok.fits;have:=ok.room;omega);have ah:Hid (DrJ w w R v v b (δ ϋ 0 0) []):=κ ⟨N,ok,World.ownsRow_nil _ _ _ _,qk.refl _ _,ϐ rfl,λk am=>by cases am⟩;clear N
 go_enter func125,ntmps125
 go_wp2
 go_loopw [3] (λv3 wr=> ∃v' d A,DrJ w wr R v v' d v3 A/\A++thJ d.holds=thJ b.holds/\Jh d.holds.length d=kA b) (λv3 _=>b.holds.length-NM v3)
 case atStart=>exact⟨v,b,[],ah.o,rfl,rfl⟩
 case round=>
  obtain⟨v',d,A,H,O,ae⟩:=hrel;have aa:=κ ae;clear ae;have I:=κ H;have Y:=κ O;obtain⟨_,_,c2,_,_,_⟩:=H.buf.cells ⟨wr,qh.refl _⟩;obtain⟨aA,cap,rfl,aw⟩:=H.buf.row.shape;obtain⟨ay,c3,rfl⟩:=Zv H.row;have ar:A.length+d.holds.length=b.holds.length:=by
   have:=ϰ List.length O;unfold thJ at this;rw[Ϗ,C3,C3] at this;exact this
  have ab:=κ ar;clear H O;cases hb:d.holds with
  | nil=>
   have G:=κ hb;rw[hb,ϱ] at c2;clear hb;have aj:Hid (A=thJ b.holds):=κ (by have:=Y.o;rw[G.o] at this;simpa [thJ] using this);go_wp2;go_ret;have ad:d=kA b:=by have:=aa.o;rw[G.o] at this;exact this
   exact⟨_,rfl,⟨_,by rw[<-aj.o,<-ad];exact I.o⟩,by rw[<-ad];exact G.o⟩
  | cons h T=>
   have G:=κ hb;have ax:(0:Int)<(d.holds.length:Int):=by rw[hb];simp
   clear hb;have al:=κ (YV d h T G.o I.o.ok R _ wr I.o.buf);have av: ∀w2,(Instr.field 338 (θ #[ι h.1,ι h.2.1,ι h.2.2]) 2).run prog w2= .ok (ι h.2.2) w2:=λw2=>by kernel_rfl
   go_wp2_with (first | (go_at_call 178;(go_call al.o as e w2 ⟨rfl,au,st⟩;have J:=κ (I.o.step ac G.o st);clear st c2)) | (at_builtin;refine qR _ rfl (.tmp 10) (.tmp 14) 107 rfl w.heap.size 3 aq (ι 0) 8 underlying107 hi an ao ap rfl _ .i64 A rfl (J.o.on Z0).row _ [h.2.2] rfl (SlI.lit .i64 w2 [h.2.2] 3 _ 1 _ rfl rfl rfl η) (by have:=ak.o;have:=ab.o;simp only[Ϙ,ϱ];omega) ζ (by have:=J.o.away.size;simp;omega) ?_;intro v5 w5 U af ag;have ai:=κ ((J.o.on Z0).put ac U af ag);obtain⟨az,c5,rfl⟩:=Zv U;clear U af ag))
   go_roundw
   case rel=>exact⟨au,jV d,A++[h.2.2],(by have:=ai.o;rw[Ϗ] at this;exact this),by rw[show (jV d).holds=T by unfold jV;rw[G.o]];have:=Y.o;rw[G.o] at this;rw[<-this];simp[thJ],by rw[show (jV d).holds=T by unfold jV;rw[G.o]];have:=aa.o;rw[G.o] at this;exact this⟩
   case measure=>have:=ab.o;rw[G.o] at this;simp[NM] at *;omega
end
end Go.Proofs.YtlmllmonabafjaaGreatDoor
