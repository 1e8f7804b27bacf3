/- x -/
import Derived.Test.YtlmllmonabafjaaGreatDoorMi4
import Derived.KernelRfl
import Derived.Deep.AppendLies
import Derived.Shelf.RegionOpenPlain
import Derived.Deep.RegionLaw
import Derived.Laws.IdiomCopy
import Derived.Lib.AppendZeros
import Derived.Lib.AppendZerosOnto
import Derived.Lib.Overlaps
namespace Go.Proofs.YtlmllmonabafjaaGreatDoor
open Option renaming some->ϊ,none->ϋ
open Bool renaming true->ό,false->ύ
open Go.Value renaming bool->μ,slice->δ,pointer->π,agg->θ
open Go.IntKind renaming i64->ι,u8->υ,u16->φ,u32->ω,i32->χ,u64->ψ
open _root_.Go.Proofs.Tryz
set_option linter.all false
set_option maxHeartbeats 8000000
open Go.RowKit
set_option maxRecDepth 100000
variable {w w':World} {q:List (List Value)} {v vo v':Value} {Q:Exit->Act->World->Prop} {base R:Nat} {K:Act->World->Prop} {D N:Nat->Prop} {P:Program} {ops:Array Oper} {l:List ItS} {k:LnB} {s s':LnS} {a:Act} {o:Oper} {E:Prop}
def Pv {t:TypeId} (h:w.heap[k.L]? =ϊ (.cells (jQ k vo s) t (0,0))):w.rangeAt k.L 7 [ω s.rw.src,φ s.rw.sq,ω s.rw.st,s.rw.any,ω s.rw.last,ω s.rw.shift]:=λj v d=>by
 match j,d with
 | 0,d=>exact qm h 7 d
 | 1,d=>exact qm h 8 d
 | 2,d=>exact qm h 9 d
 | 3,d=>exact qm h 10 d
 | 4,d=>exact qm h 11 d
 | 5,d=>exact qm h 12 d
def Zm {C:World->Prop} (d:TypeId) (x:Operand) (M:o.op= .load d x) (b H:Nat) (O:a.eval x= π (ϊ ⟨b,H,ϋ⟩)) (cs:List Value) (G:TypeDesc) (I:w.rangeAt b H cs)
  (N:P.underlying d=ϊ G) (J:G.isRow=ό) (hi:(P.info? d).map (·.size)=ϊ cs.length) (h:C w/\K (a.put o.dst (θ cs.toArray)) w):jn P C o a w K:=by
 unfold jn execOp;simp only[M,O,Instr.loadAt,Instr.sureAddr,Sem.run_bind,Sem.run_pure,Result.andThen_ok,run_loadVar_mid w b H d cs G I N J hi];exact h
def Zj (h:LnX N w k vo s) (G:vC s 2=ύ):Calls prog 138 #[γ k.L] w λe w'=>e= .returned (.tuple #[ι 0,ύ,ύ])/\ql w w':=by
 have d:=Yz h;rw[G] at d;have d:=κ d;clear G h
 go_enter func138,ntmps138
 go_wp2_with (go_at_call 74;(go_call d.o as e w1 ⟨rfl,H⟩;have I:=κ H;clear H))
 refine bodyPost_ret (v:= .tuple #[ι 0,ύ,ύ]) (by simp[results,results138,go_sem]) rfl ?_;exact⟨rfl,I.o⟩
def XQ (h:LnX N w k vo s) (x:ItS) (ac:Bool) (T:List (ItS×Bool)) (bX:s.B=(x,ac)::T) (X Z Q:Int) (bZ:shL s.rw x.pk.st ac=X) (bl:(x.pk.st+X)%4294967296=Z) (bk:(s.rw.sq+1)%65536=Q):
  Calls prog 138 #[γ k.L] w λe w'=>e= .returned (.tuple #[ι (if s.C.length<s.room then 0 else (s.C.head?.map (·.1)).getD 0),(decide (¬s.C.length<s.room)),ό])/\
   LnX (xf N w w') w' k vo {s with B:=T,rw:=⟨s.rw.src,Q,s.rw.st,ό,Z,X⟩,C:=if s.C.length<s.room then s.C++[(x.id,pkB {x.pk with sq:=s.rw.sq,st:=Z,sc:=s.rw.src})] else s.C.tail++[(x.id,pkB {x.pk with sq:=s.rw.sq,st:=Z,sc:=s.rw.src})]}/\jt N w w':=by
 have U:=κ h;have aE:=Yz h;have cb:vC s 2=ό:=by
  show decide (0<s.B.length)=ό;rw[bX];simp
 rw[cb] at aE;have aE:=κ aE;have cI:=κ (λ(mr:Bool) (ty q so:Int) (w:World)=>AI s.rw.src s.rw.sq s.rw.st s.rw.last s.rw.shift s.rw.any ac mr ty q x.pk.st so w X bZ Z bl Q bk);have cW:U32 Z:=by rw[<-bl];exact⟨τ,τ⟩
 have cV:U16 Q:=by rw[<-bk];exact⟨τ,τ⟩
 obtain⟨aM,dy,bP,cN,bM,bO,cP,ax,bd⟩:=h.r2;rw[bX] at bd;obtain⟨c,q,rfl,aH,bL⟩:=bd.uncons;have AQ:=κ bL;obtain⟨dD,dB,vp,rfl,⟨⟨os,I,rfl,_⟩,⟨J,ke,rfl,_⟩,⟨M,H,rfl,_⟩⟩,Y,ci⟩:=aH.read;have aP: ∀w',jt (lnE N k vo) w w'->PkS w' (δ os x.pk.ss.length I) (δ J x.pk.ex.length ke) (δ M x.pk.pl.length H) x.pk:=λw' a=>by
  obtain⟨dE,dC,vp',e,ce,_⟩:=aH w' a;simp[itC] at e;obtain⟨aw,aK,aL⟩:=e;rw[<-aw,<-aK,<-aL] at ce;exact ce
 have bm:uf {x.pk with sq:=s.rw.sq,st:=Z,sc:=s.rw.src}:=⟨Y.ty,h.ok.sq,cW,h.ok.src,Y.ss,Y.pr,Y.ex,Y.pl⟩;have bp:jJ {x.pk with sq:=s.rw.sq,st:=Z,sc:=s.rw.src}=ό:=ci;have cC:Hid (∀w',jt (lnE N k vo) w w'->Calls prog 37 #[θ #[μ x.pk.mr,υ x.pk.ty,φ s.rw.sq,ω Z,ω s.rw.src,δ os x.pk.ss.length I,x.pk.has,φ x.pk.pr,δ J x.pk.ex.length ke,δ M x.pk.pl.length H]] w' λe w''=>(∃v,e= .returned (.tuple #[v,ι 0])/\w''.ownsRow w'.heap.size 5 1 v (pkB {x.pk with sq:=s.rw.sq,st:=Z,sc:=s.rw.src}).length ((pkB {x.pk with sq:=s.rw.sq,st:=Z,sc:=s.rw.src}).map (Value.int .u8)))/\ql w' w''):=
  κ λw' a=>gi {x.pk with sq:=s.rw.sq,st:=Z,sc:=s.rw.src} _ _ _ w' ⟨(aP w' a).s,(aP w' a).e,(aP w' a).l⟩ bm bp
 have aW:Hid ((pkB {x.pk with sq:=s.rw.sq,st:=Z,sc:=s.rw.src}).length<=200/\Byt (pkB {x.pk with sq:=s.rw.sq,st:=Z,sc:=s.rw.src})):=κ ⟨by
  have cS:=Ey {x.pk with sq:=s.rw.sq,st:=Z,sc:=s.rw.src};have cT:=((yq _).1 bp).2.2.2.2
  omega,Iy bm⟩
 clear aP Y bm ci bp bZ bl bk;generalize pkB {x.pk with sq:=s.rw.sq,st:=Z,sc:=s.rw.src}=body at *;obtain⟨df,bq⟩:=ν ((if s.C.length<s.room then 0 else (s.C.head?.map (·.1)).getD 0));obtain⟨de,bo⟩:=ν (decide (¬s.C.length<s.room));obtain⟨dz,bn⟩:=ν ((if s.C.length<s.room then s.C++[(x.id,body)] else s.C.tail++[(x.id,body)]));rw[bq,bo,bn];have cH:=κ bq;have cG:=κ bo;have cF:=κ bn;clear bq bo bn;simp only[itC,List.cons_append,I3] at aH ax;have cy:=κ ax;have dq:k.R2<w.heap.size:=qn ax.ring;have dm:k.A2<w.heap.size:=qn ax.row;have ad:=κ h.dist;clear h cb ax aH bL bd
 go_enter func138,ntmps138
 go_wp2_with (first | (go_at_call 74;(go_call aE.o as e w1 ⟨rfl,az⟩;have cJ:=κ az;have bC:=κ (qq az U.o.blk);have dG:Hid (w.heap.size<=w1.heap.size):=κ az.size;have cx:=κ (cy.o.more az);clear az;have c2:w1.cell? ⟨k.L,2,ϋ⟩=ϊ (π (ϊ ⟨k.R2,0,ϋ⟩)):=qm bC.o 2 rfl)) | (go_at_call 200;(go_call Nc w1 k.R2 k.A2 s.room aM _ q bP cN bM bO cP cx.o as e w2 ⟨rfl,⟨cO,bV⟩,be⟩;have cz:=κ bV;have A2:Hid (jt (RgB k.R2 k.A2) w w2):=κ ((jt.of_more cJ.o).trans be);have aR:Hid (w2.heap[k.L]? =ϊ (.cells (jQ k vo s) 153 (0,0))):=κ (be.blk bC.o (by obtain⟨⟨af,an,ag,ah,_⟩,_⟩:=ad.o;rintro(e | e)<;>omega));clear bV be)))
 obtain⟨ab,ay⟩:=ν ((w2.alloc (.cells (Γk x os I J ke M H ac) 255)).alloc (.cells (Γh x.pk os I J ke M H) 63));have aY:Hid (ql w2 ab):=κ (by rw[<-ay];exact W4.al _);have bb:Hid (ab.heap[w2.heap.size]? =ϊ (.cells (Γk x os I J ke M H ac) 255 (0,0))):=κ (by rw[<-ay];exact qs (qj w2 _) _);have ba:Hid (ab.heap[w2.heap.size+1]? =ϊ (.cells (Γh x.pk os I J ke M H) 63 (0,0))):=κ (by rw[<-ay];exact qC η);have aS:=κ (qq aY.o aR.o);rw[ay];clear ay;have ct: ¬w2.heap.size=k.L:=by have:=qn aR.o;omega
 have bt: ¬w2.heap.size+1=k.L:=by have:=qn aR.o;omega
 have bG: ∀y:qz (λb=>b=k.L) ab,y.w'.rangeAt (w2.heap.size+1) 0 [μ x.pk.mr,υ x.pk.ty,φ x.pk.sq,ω x.pk.st,ω x.pk.sc]:=λy=>by
  have:=xy (cs:=(Γh x.pk os I J ke M H)) (y.h.blk ba.o bt);intro j v ap;refine this j v ?_;have cX:=(Ϛ.1 ap).1;rw[<-ap];exact ϻ (l₁:=[μ x.pk.mr,υ x.pk.ty,φ x.pk.sq,ω x.pk.st,ω x.pk.sc]) (l₂:=[δ os x.pk.ss.length I,x.pk.has,φ x.pk.pr,δ J x.pk.ex.length ke,δ M x.pk.pl.length H]) cX
 have cM: ∀y:qz (λb=>b=k.L) ab,y.w'.cell? ⟨w2.heap.size,13,ϋ⟩=ϊ (μ ac):=λy=>qm (y.h.blk bb.o ct) 13 rfl
 refine zp (λb=>b=k.L) ab 17 [(0,ύ),(1,ύ),(2,ύ),(3,ύ),(5,ύ),(6,ύ),(7,ύ),(8,ύ),(4,ό),(9,ό),(10,ύ),(11,ύ),(12,ύ),(13,ύ),(14,ύ),(15,ό),(16,ύ),(17,ό)] ξ ξ ?_
 refine Qs5 ?_
 refine jh rfl rfl (qi σ) 60 (.tmp 33) rfl (w2.heap.size+1) 0 rfl [μ x.pk.mr,υ x.pk.ty,φ x.pk.sq,ω x.pk.st,ω x.pk.sc] _ (λw' dc=>by obtain⟨y,rfl⟩:=dc;exact bG y) underlying60 rfl ξ ?_;intro K d;go_simp;refine d _ ?_;clear d K
 refine Qs2 ?_
 refine jR rfl rfl ?_;intro K d;refine Zm 149 (.tmp 31) rfl k.L 7 rfl [ω s.rw.src,φ s.rw.sq,ω s.rw.st,s.rw.any,ω s.rw.last,ω s.rw.shift] _ (Pv (qr aS.o 1)) underlying149 rfl ξ ?_;refine⟨qi σ, ?_⟩;go_simp;refine d _ _ ?_;clear d K
 (refine Ql ?_;intro K d)
 go_call cI.o _ _ _ _ _ as e w5 ⟨rfl,cp⟩;have ae:Hid (ql ab w5):=κ ((ql.drewN _ 1).trans cp);clear cp;have aT:=κ (qq ae.o aS.o);have bH:=κ (qq ae.o ba.o);have bJ:=κ (qq ae.o bb.o);refine⟨_,rfl,qi (jt.of_more ae.o),d _ _ ?_⟩;clear d K bG cM
 iterate 5 (refine qE rfl rfl (qi (jt.of_more ae.o)) ?_;intro K d;go_big_quiet_op;go_big_quiet_on)
 refine jR rfl rfl ?_;intro K d;refine zF 149 (.tmp 41) (.tmp 38) rfl k.L 7 153 _ [ω s.rw.src,φ Q,ω s.rw.st,ό,ω Z,ω X] rfl rfl aT.o (by show 7+6<=16;decide) ξ W5 ?_;have ai:Hid (jt (λb=>b=k.L) ab (w5.setRow k.L (xQ (jQ k vo s).toList 7 [ω s.rw.src,φ Q,ω s.rw.st,ό,ω Z,ω X]).toArray)):=κ ((jt.of_more (S:=λb=>b=k.L) ae.o).row (g:=k.L) rfl _);have aU:Hid ((w5.setRow k.L (xQ (jQ k vo s).toList 7 [ω s.rw.src,φ Q,ω s.rw.st,ό,ω Z,ω X]).toArray).heap[k.L]? =ϊ (.cells (jQ k vo {s with rw:=⟨s.rw.src,Q,s.rw.st,ό,Z,X⟩}) 153 (0,0))):=κ (qB (jY aT.o _) rfl);have aG:Hid ((w5.setRow k.L (xQ (jQ k vo s).toList 7 [ω s.rw.src,φ Q,ω s.rw.st,ό,ω Z,ω X]).toArray).heap[w2.heap.size+1]? =ϊ (.cells (Γh x.pk os I J ke M H) 63 (0,0))):=κ (qS bH.o _ bt);have bc:Hid ((w5.setRow k.L (xQ (jQ k vo s).toList 7 [ω s.rw.src,φ Q,ω s.rw.st,ό,ω Z,ω X]).toArray).heap[w2.heap.size]? =ϊ (.cells (Γk x os I J ke M H ac) 255 (0,0))):=κ (qS bJ.o _ ct);obtain⟨w6,cj⟩:=ν (w5.setRow k.L (xQ (jQ k vo s).toList 7 [ω s.rw.src,φ Q,ω s.rw.st,ό,ω Z,ω X]).toArray);rw[cj] at ai aU aG bc ⊢;clear cj aT bH bJ ae;refine⟨qi ai.o, ?_⟩;go_simp;refine d _ _ ?_;clear d K
 iterate 1 (refine qE rfl rfl (qi ai.o) ?_;intro K d;go_big_quiet_op;go_big_quiet_on)
 refine zY rfl rfl ζ ?_;intro K d;refine zF 60 (.tmp 42) (.tmp 39) rfl (w2.heap.size+1) 0 63 _ [μ x.pk.mr,υ x.pk.ty,φ s.rw.sq,ω Z,ω s.rw.src] rfl rfl aG.o (by show 0+5<=10;decide) ξ W5 ?_;have ar:Hid (jt (λb=>b=k.L∨RgB k.R2 k.A2 b) w (w6.setRow (w2.heap.size+1) (xQ ((Γh x.pk os I J ke M H):Array Value).toList 0 [μ x.pk.mr,υ x.pk.ty,φ s.rw.sq,ω Z,ω s.rw.src]).toArray)):=κ ((((A2.o.mono λb G=>ϔ G).more aY.o).trans (ai.o.mono λb G=>ϒ G)).rowNew (by have:=A2.o.size;omega) _);have bD:Hid ((w6.setRow (w2.heap.size+1) (xQ ((Γh x.pk os I J ke M H):Array Value).toList 0 [μ x.pk.mr,υ x.pk.ty,φ s.rw.sq,ω Z,ω s.rw.src]).toArray).heap[k.L]? =ϊ (.cells (jQ k vo {s with rw:=⟨s.rw.src,Q,s.rw.st,ό,Z,X⟩}) 153 (0,0))):=κ (qS aU.o _ (λe=>bt e.symm));have bI:Hid ((w6.setRow (w2.heap.size+1) (xQ ((Γh x.pk os I J ke M H):Array Value).toList 0 [μ x.pk.mr,υ x.pk.ty,φ s.rw.sq,ω Z,ω s.rw.src]).toArray).heap[w2.heap.size+1]? =ϊ (.cells #[μ x.pk.mr,υ x.pk.ty,φ s.rw.sq,ω Z,ω s.rw.src,δ os x.pk.ss.length I,x.pk.has,φ x.pk.pr,δ J x.pk.ex.length ke,δ M x.pk.pl.length H] 63 (0,0))):=κ (qB (jY aG.o _) rfl);have bK:Hid ((w6.setRow (w2.heap.size+1) (xQ ((Γh x.pk os I J ke M H):Array Value).toList 0 [μ x.pk.mr,υ x.pk.ty,φ s.rw.sq,ω Z,ω s.rw.src]).toArray).heap[w2.heap.size]? =ϊ (.cells (Γk x os I J ke M H ac) 255 (0,0))):=κ (qS bc.o _ τ);have bF:Hid (qN 14 330 255 (w6.setRow (w2.heap.size+1) (xQ ((Γh x.pk os I J ke M H):Array Value).toList 0 [μ x.pk.mr,υ x.pk.ty,φ s.rw.sq,ω Z,ω s.rw.src]).toArray) k.R2 k.A2 s.room ((aM+1)%s.room) q bP cO bM bO _):=κ (((cz.o.more aY.o).away ai.o (by obtain⟨⟨af,an,ag,ah,_⟩,_⟩:=ad.o;exact C0 ag) (by obtain⟨⟨af,an,ag,ah,_⟩,_⟩:=ad.o;exact C0 ah)).away (EC _ _ _) (λe=>by have:=A2.o.size;omega) (λe=>by have:=A2.o.size;omega));obtain⟨W7,bY⟩:=ν (w6.setRow (w2.heap.size+1) (xQ ((Γh x.pk os I J ke M H):Array Value).toList 0 [μ x.pk.mr,υ x.pk.ty,φ s.rw.sq,ω Z,ω s.rw.src]).toArray);rw[bY] at ar bD bI bK bF ⊢;clear bY ai aU aG bc ba bb aS;refine⟨trivial, ?_⟩;go_simp;refine d _ _ ?_;clear d K;refine qA ?_;have cu:Hid (jt (lnE N k vo) w W7):=κ (ar.o.mono λb G=>kZ (by rcases G with e | e;exact ϒ e;exact ϔ (ϔ (ϒ e))))
 go_wp2_with (first | (refine yL (.load 63 (.tmp 7)) rfl ?_;refine vO rfl 63 (.tmp 7) rfl (w2.heap.size+1) 63 _ _ bI.o rfl underlying63 rfl ξ ?_) | (go_at_call 37;(go_call cC.o _ cu.o as e w8 ⟨⟨dA,rfl,aQ⟩,cq⟩;have aZ:=κ aQ;have aF:=κ cq;have cK:=κ (SlI.of_owns aQ (by have:=aW.o.1;omega));obtain⟨aI,aJ,rfl⟩:=VI aQ;clear aQ cq)))
 obtain⟨aN,aA,bQ,bh,bN,bg,bR,aO,a3⟩:=U.o.r3;have bx:Hid (jt (λb=>b=k.L∨RgB k.R2 k.A2 b) w w8):=κ (ar.o.more aF.o);have bE:=κ (qq aF.o bD.o);have cL:=κ (qq aF.o bK.o);have cA:=κ (bF.o.more aF.o);have bz:=κ a3;have ch:aA.length=s.C.length:=a3.len;have ds:k.R3<w.heap.size:=qn aO.ring;have dn:k.A3<w.heap.size:=qn aO.row;have dH:w.heap.size<=w2.heap.size:=A2.o.size;have av:Hid (qN 2 332 56 w8 k.R3 k.A3 s.room aN aA bQ bh bN bg bR):=κ (aO.away bx.o (by obtain⟨⟨af,an,ag,ah,bi,bj⟩,⟨aw,aK,aL,bT,bU⟩,⟨aM,cQ,aN,cR⟩,⟨ck,cl,cm⟩,⟨cn,co⟩,_⟩:=ad.o;rintro(e | e | e)<;>omega) (by obtain⟨⟨af,an,ag,ah,bi,bj⟩,⟨aw,aK,aL,bT,bU⟩,⟨aM,cQ,aN,cR⟩,⟨ck,cl,cm⟩,⟨cn,co⟩,_⟩:=ad.o;rintro(e | e | e)<;>omega));obtain⟨aq,bu,bv,op,cd,cf⟩:=Pc w8 k.R3 k.A3 s.room aN aA bQ bh bN bg bR av.o (UJ a3) [ι x.id,δ aI body.length aJ] ⟨rfl,by simp[Value.oneCell']⟩;have aX:=κ cf;have cE:=κ cd;clear cf cd aO a3;generalize ca:decide (¬aA.length<s.room)=dr at aX;have cD:=κ ca;clear ca;have cr: ¬RgB k.R3 k.A3 k.L:=by
  obtain⟨⟨af,an,ag,ah,bi,bj⟩,_⟩:=ad.o;rintro(e | e)<;>omega
 have dd: ¬RgB k.R3 k.A3 w2.heap.size:=by rintro(e | e)<;>omega
 go_cut [10,11,12] from 48 (λdg dh di bw=> ∃C,dg= γ C/\dh= μ dr/\di= ι 0/\bw.heap[C]? =ϊ (.cells #[ι aq,δ bu bv op] 56 (0,0))/\jt (RgB k.R3 k.A3) w8 bw/\ ∃ao ak aj am,qN 2 332 56 bw k.R3 k.A3 s.room ao (vE s.room aA [ι x.id,δ aI body.length aJ]) ak bh aj bg am)
 case first=>
  have dj: ∀y:qz (RgB k.R3 k.A3) w8,y.w'.cell? ⟨k.L,3,ϋ⟩=ϊ (π (ϊ ⟨k.R3,0,ϋ⟩)):=λy=>qm (y.h.blk bE.o cr) 3 rfl
  have dk: ∀y:qz (RgB k.R3 k.A3) w8,y.w'.cell? ⟨w2.heap.size,0,ϋ⟩=ϊ (ι x.id):=λy=>qm (y.h.blk cL.o dd) 0 rfl
  refine wC (RgB k.R3 k.A3) w8 18 (.op 0 ύ (.op 1 ύ (.op 2 ύ (.op 3 ύ (.op 4 ύ (.op 5 ύ (.op 6 ύ (.op 7 ύ (.op 8 ύ (.br [9,14] λk=>if k=9 then .op 10 ύ (.op 11 ύ (.op 12 ύ (.op 13 ύ (.op 14 ό (.op 15 ό (.op 16 ύ (.op 17 ύ (.done)))))))) else .op 9 ό (.op 10 ύ (.op 11 ύ (.op 12 ύ (.op 13 ύ (.op 15 ό (.op 16 ύ (.op 17 ύ (.done)))))))))))))))))) ξ ξ ?_
  repeat (first | (refine jg rfl rfl (qi σ) ?_) | (refine qH rfl rfl (qi σ) ?_;intro K d;go_big_quiet_op;go_big_quiet_on))
  refine wP ζ ?_ ?_
  ·(refine qO rfl rfl ?_;intro K d;unfold jn;go_simp)
   go_call aX.o _ (av.o.more (ql.drewN w8 1)) as e w9 ⟨rfl,aa,a9⟩;have O:Hid (jt (RgB k.R3 k.A3) w8 w9):=κ (((jt.refl _ _).drewN 1).trans a9);have aV:=κ aa;clear a9 aa;refine⟨_,rfl,qi O.o,d _ _ ?_⟩;clear d K
   repeat (first | (refine jg rfl rfl (qi O.o) ?_) | (refine qH rfl rfl (qi O.o) ?_;intro K d;go_big_quiet_op;go_big_quiet_on))
   (refine qO rfl rfl ?_;intro K d;unfold jn;go_simp)
   refine⟨qi (O.o.alc _),d _ _ ?_⟩;clear d K
   (refine qO rfl rfl ?_;intro K d;unfold jn;go_simp)
   refine⟨qi (O.o.alc _),d _ _ ?_⟩;clear d K
   repeat (first | (refine jg rfl rfl (qi (O.o.alc _)) ?_) | (refine qH rfl rfl (qi (O.o.alc _)) ?_;intro K d;go_big_quiet_op;go_big_quiet_on))
   refine zg ?_;go_wp2;go_meet;obtain⟨ao,ak,aj,am,aa⟩:=aV.o;exact⟨_,rfl,rfl,rfl,qj w9 _,O.o.alc _,ao,ak,aj,am,aa.more W4⟩
  ·(refine qO rfl rfl ?_;intro K d;unfold jn;go_simp)
   refine⟨qi (((jt.refl _ w8).drewN 1).alc _),d _ _ ?_⟩;clear d K
   (refine qO rfl rfl ?_;intro K d;unfold jn;go_simp)
   go_call aX.o _ (av.o.more ((ql.drewN w8 1).al _)) as e w9 ⟨rfl,aa,a9⟩;have O:Hid (jt (RgB k.R3 k.A3) w8 w9):=κ ((((jt.refl _ _).drewN 1).alc _).trans a9);have aV:=κ aa;have dt:k.R3<w8.heap.size:=qn av.o.ring;have dp:k.A3<w8.heap.size:=qn av.o.row;have au:Hid (w9.heap[w8.heap.size]? =ϊ (.cells Γs 56 (0,0))):=κ (a9.blk (qC rfl) X0);clear a9 aa;have dl:w9.cell? ⟨w8.heap.size,0,ϋ⟩=ϊ (ι 0):=qm au.o 0 rfl;have af:w9.cell? ⟨w8.heap.size,1,ϋ⟩=ϊ (δ ϋ 0 0):=qm au.o 1 rfl;have e0:w9.frozen? ⟨w8.heap.size,0,ϋ⟩=ύ:=yw au.o 0;have aw:w9.frozen? ⟨w8.heap.size,1,ϋ⟩=ύ:=yw au.o 1;refine⟨_,rfl,qi O.o,d _ _ ?_⟩;clear d K
   repeat (first | (refine jg rfl rfl (qi O.o) ?_) | (refine qH rfl rfl (qi O.o) ?_;intro K d;go_big_quiet_op;go_big_quiet_on))
   (refine qO rfl rfl ?_;intro K d;unfold jn;go_simp)
   have aB:jt (RgB k.R3 k.A3) w8 ((w9.setCell ⟨w8.heap.size,0,ϋ⟩ (ι aq)).setCell ⟨w8.heap.size,1,ϋ⟩ (δ bu bv op)):=(O.o.setNew (ϕ _) _).setNew (ϕ _) _;have cv:jt (λb=>b=w8.heap.size) w9 ((w9.setCell ⟨w8.heap.size,0,ϋ⟩ (ι aq)).setCell ⟨w8.heap.size,1,ϋ⟩ (δ bu bv op)):=((jt.refl (λb=>b=w8.heap.size) w9).set (p:=⟨w8.heap.size,0,ϋ⟩) rfl _).set (p:=⟨w8.heap.size,1,ϋ⟩) rfl _;refine⟨qi aB,d _ _ ?_⟩;clear d K
   repeat (first | (refine jg rfl rfl (qi aB) ?_) | (refine qH rfl rfl (qi aB) ?_;intro K d;go_big_quiet_op;go_big_quiet_on))
   refine zg ?_;go_wp2;go_meet;obtain⟨ao,ak,aj,am,aa⟩:=aV.o;exact⟨_,rfl,rfl,rfl,qB (qp (qp au.o 0 _) 1 _) rfl,aB,ao,ak,aj,am,aa.away cv τ τ⟩
 case rest=>
 obtain⟨C,rfl,rfl,rfl,bS,bf,ao,ak,aj,am,bW⟩:=hcut;have aD:=κ bf;have cB:=κ bW;have cw:Hid (wc.heap[k.L]? =ϊ (.cells (jQ k vo {s with rw:=⟨s.rw.src,Q,s.rw.st,ό,Z,X⟩}) 153 (0,0))):=κ (bf.blk bE.o cr);have dF:wc.cell? ⟨C,0,ϋ⟩=ϊ (ι aq):=qm bS 0 rfl;clear bf bW bS;go_wp2;refine bodyPost_ret (v:= .tuple #[ι aq,dr,ό]) (by simp[results,results138,go_sem]) rfl ?_;obtain⟨⟨af,an,ag,ah,bi,bj⟩,⟨aw,aK,aL,bT,bU⟩,⟨du,dv,dw,dx⟩,⟨ck,cl,cm⟩,⟨cn,co⟩,_⟩:=ad.o;have bB:jt (λb=>b=k.L∨RgB k.R2 k.A2 b∨RgB k.R3 k.A3 b) w wc:=(bx.o.mono λb G=>by rcases G with e | e;exact ϒ e;exact ϔ (ϒ e)).trans (aD.o.mono λb G=>ϔ (ϔ G));have cc: ∀b,(b=k.L∨RgB k.R2 k.A2 b∨RgB k.R3 k.A3 b)->k.muts b:=λb G=>by rcases G with e | e | e;exact ϒ e;exact ϔ (ϔ (ϒ e));exact ϔ (ϔ (ϔ e))
 have aC:jt k.muts w wc:=bB.mono cc;have bA:jt (lnM k vo) w wc:=aC.mono λb G=>ϒ G
 have ap: ∀b,vo.ownBlock=ϊ b->vo.ownBlock=ϊ b∨w.heap.size<=b:=λb G=>ϒ G
 have cU: ∀b,(b=k.L∨RgB k.R2 k.A2 b∨RgB k.R3 k.A3 b)->lnE N k vo b:=λb G=>kZ (cc b G)
 have Y:=U.o.ok;have cY:jw ROu (lnE (xf N w wc) k vo) wc [ι x.id,δ aI body.length aJ] (x.id,body):=λw'' a=>by
  refine⟨_,rfl, ?_,aW.o.2,aW.o.1⟩
  have db:SlI .u8 wc (δ aI body.length aJ) body:=cK.o.off (λb e G=>by
   have cS:=um aZ.o e;have cT:=ar.o.size
   rcases G with G | G<;>omega) aD.o
  refine U.o.fresh (vo':=vo) db (λb e=>⟨Ϙ ar.o.size (um aZ.o e),ϗ (Vg aZ.o e) aD.o.size⟩) (λb e=>e) a
 have cg:=DY (R:=ROu) (D:=lnE (xf N w wc) k vo) (w:=wc) (room:=s.room) (bz.o.mono λc y bs=>U.o.held bs bA ap) cY;have cZ:aq=df:=by rw[cE.o,ch,Pg bz.o];exact cH.o
 have da:dr=de:=by rw[<-cD.o,ch];exact cG.o
 rw[cF.o] at cg;rw[<-cZ,<-da];refine⟨rfl,U.o.make aC.size cw.o (U.o.r1.step bB (by rintro(e | (e | e) | (e | e))<;>omega) (by rintro(e | (e | e) | (e | e))<;>omega) cU λb G=>ϒ (xE U.o.own ap G)) ⟨_,_,_,_,_,_,_,cA.o.away aD.o X0 X0,AQ.o.mono λc y bs=>U.o.held bs bA ap⟩ ⟨_,_,_,_,_,_,_,cB.o,cg⟩ (U.o.rows aC) ⟨Y.most,Y.row,Y.lt,cV,Y.src⟩,aC.mono λb G=>U.o.muts b G⟩
def Uu (h:LnX N w k vo s):Calls prog 138 #[γ k.L] w λe w'=>e= .returned (.tuple #[ι (qY s).2.1,μ (qY s).2.2.1,μ (qY s).2.2.2])/\LnX (xf N w w') w' k vo (qY s).1/\jt N w w':=by
 cases hB:s.B with
 | nil=>
  have e:qY s=(s,0,ύ,ύ):=by unfold qY;rw[hB]
  rw[e];refine(Zj h (by show decide (0<s.B.length)=ύ;rw[hB];rfl)).mono ?_;rintro e w' ⟨rfl,m⟩;exact⟨rfl,h.grow m,jt.of_more m⟩
 | cons y T=>
  obtain⟨x,d⟩:=y;have e:qY s=((NJ {s with B:=T,rw:=ul s.rw x.pk d} (x.id,pkB (kY s.rw x.pk d))).1,(NJ {s with B:=T,rw:=ul s.rw x.pk d} (x.id,pkB (kY s.rw x.pk d))).2.1,(NJ {s with B:=T,rw:=ul s.rw x.pk d} (x.id,pkB (kY s.rw x.pk d))).2.2,ό):=by unfold qY;rw[hB]
  rw[e];have G:=XQ h x d T hB (shL s.rw x.pk.st d) ((x.pk.st+shL s.rw x.pk.st d)%4294967296) ((s.rw.sq+1)%65536) rfl rfl rfl;by_cases hc:s.C.length<s.room
  ·have H:NJ {s with B:=T,rw:=ul s.rw x.pk d} (x.id,pkB (kY s.rw x.pk d))=({s with B:=T,rw:=ul s.rw x.pk d,C:=s.C++[(x.id,pkB (kY s.rw x.pk d))]},0,ύ):=by unfold NJ;rw[ϐ hc]
   rw[H];simp only[hc,A0,not_true,decide_false] at G;exact G
  ·have H:NJ {s with B:=T,rw:=ul s.rw x.pk d} (x.id,pkB (kY s.rw x.pk d))=({s with B:=T,rw:=ul s.rw x.pk d,C:=s.C.tail++[(x.id,pkB (kY s.rw x.pk d))]},(s.C.head?.map (·.1)).getD 0,ό):=by unfold NJ;rw[ώ hc]
   rw[H];simp only[hc,C2,not_false_iff,decide_true] at G;exact G
theorem xN {rest:List Oper} {op:Oper} (O:Region.wanted op (yielded ops a.tmps)=ό) (d:TypeId) (x:Operand) (M:op.op= .load d x)
  (b o:Nat) (U:a.eval x= π (ϊ ⟨b,o,ϋ⟩)) (cs:List Value) (G:TypeDesc) (I:w.rangeAt b o cs)
  (N:P.underlying d=ϊ G) (J:G.isRow=ό) (hi:(P.info? d).map (·.size)=ϊ cs.length)
  (h:wpList P ops Q rest (a.put op.dst (θ cs.toArray)) w):wpList P ops Q (op::rest) a w:=
 wpList_step λK H=>by
  rw[ϐ O];exact wp_load_mid d x M b o U cs G I N J hi (H _ _ h)
def ku {b t:Nat} {a0 d G:Value} {cs:List Value} (h:w.heap[b]? =ϊ (.cells (a0::d::G::cs).toArray t (0,0))):w.rangeAt b 3 cs:=λj v H=>by
 rw[cell_of_row w b (3+j) _ t (0,0) h,A5,show 3+j=j+1+1+1 by omega]
 simpa using H
def Km (a:zb (jw RIt D w) q l): ∀c∈q,∃(y:ItS) (G H J:Option Addr) (an d bn I cn M:Nat),c=[ι y.id,ι y.layer,y.key,y.pk.mr,υ y.pk.ty,φ y.pk.sq,ω y.pk.st,ω y.pk.sc,δ G an d,y.pk.has,φ y.pk.pr,δ H bn I,δ J cn M]:=λc N=>by
 obtain⟨y,_,O⟩:=a.mem c N;obtain⟨Y,U,vp,rfl,⟨⟨G,d,rfl,_⟩,⟨H,I,rfl,_⟩,⟨J,M,rfl,_⟩⟩,_⟩:=O.read;exact⟨y,G,H,J,_,d,_,I,_,M,rfl⟩
def UQ (a:zb (jw RIt D w) q l):(q.head?.map idN).getD 0=(l.head?.map (·.id)).getD 0:=by
 cases l with
 | nil=>rw[a.nil_r];rfl
 | cons o l=>
  obtain⟨c,q',rfl,d,_⟩:=a.uncons;obtain⟨H,G,vp,rfl,_⟩:=d.read;rfl
def Pd (al:World) (R A room f:Nat) (q:List (List Value)) (ac aa ab N:Int) (css:List (List Value)) (ah:qN 13 327 253 al R A room f q ac aa ab N css)
  (ak: ∀c∈q,∃(y:ItS) (H I O:Option Addr) (G d M J Y U:Nat),c=[ι y.id,ι y.layer,y.key,y.pk.mr,υ y.pk.ty,φ y.pk.sq,ω y.pk.st,ω y.pk.sc,δ H G d,y.pk.has,φ y.pk.pr,δ I M J,δ O Y U]) (x:List Value) (aj:x.length=13/\ ∀u∈x,u.oneCell'=ό):
  ∃(y:ItS) (H I O:Option Addr) (G d M J Y U:Nat),(y.id=if q.length<room then 0 else (q.head?.map idN).getD 0)/\
  ∀w,qN 13 327 253 w R A room f q ac aa ab N css->Calls prog 196 #[γ R,θ x.toArray] w λe w'=>e= .returned (.tuple #[θ #[ι y.id,ι y.layer,y.key,y.pk.mr,υ y.pk.ty,φ y.pk.sq,ω y.pk.st,ω y.pk.sc,δ H G d,y.pk.has,φ y.pk.pr,δ I M J,δ O Y U],(decide (¬q.length<room)),ι 0])/\
   (∃f' ad ag css',qN 13 327 253 w' R A room f' (vE room q x) ad aa ag N css')/\jt (RgB R A) w w':=by
 by_cases hq:q.length<room
 ·refine⟨⟨0,0,ύ,pk0⟩,ϋ,ϋ,ϋ,0,0,0,0,0,0,by rw[ϐ hq],λw h=> ?_⟩;have ae:decide (¬q.length<room)=ύ:=by simp[hq]
  have af:vE room q x=q++[x]:=by unfold vE;rw[ϐ hq]
  rw[ae,af];refine(UF w R A room f q ac aa ab N css h hq x aj).mono ?_;rintro e w' ⟨rfl,⟨ad,g⟩,a⟩;exact⟨rfl,⟨_,_,_,_,g⟩,a⟩
 ·have am:=ah.fits;have an:=ah.pos;cases q with
  | nil=>simp at hq;omega
  | cons c T=>
   obtain⟨y,H,I,O,G,d,M,J,Y,U,ai⟩:=ak c η;refine⟨y,H,I,O,G,d,M,J,Y,U,by rw[ώ hq,ai];rfl,λw h=> ?_⟩;have ae:decide (¬(c::T).length<room)=ό:=by simpa using hq
   have af:vE room (c::T) x=T++[x]:=by unfold vE;rw[ώ hq];rfl
   rw[ae,af];refine(UG w R A room f c T ac aa ab N css h τ x aj).mono ?_;rintro e w' ⟨rfl,⟨ad,ag,g⟩,a⟩;exact⟨by rw[ai],⟨_,_,_,_,g⟩,a⟩
def Qt (h:LnX N w k vo s) (x:ItS) (os I J:Option Addr) (G ke d:Nat) (ai:PkS w (δ os x.pk.ss.length G) (δ I x.pk.ex.length ke) (δ J x.pk.pl.length d) x.pk) (aj:uj x.pk) (n:Int)
  (an:(jj x.layer=ύ/\n=1)∨(jj x.layer=ό/\jJ x.pk=ύ/\n=1)∨(jj x.layer=ό/\jJ x.pk=ό/\s.gone=ό/\n=7)∨(jj x.layer=ό/\jJ x.pk=ό/\s.gone=ύ/\s.wanted=ύ/\n=5)):
  Calls prog 136 #[γ k.L,(Γj x os G I ke J d)] w λe w'=>e= .returned (.tuple #[ι 0,ύ,ι n])/\ql w w':=by
 have Y:Hid (∀w',ql w w'->Calls prog 92 #[(Γh x.pk os G I ke J d)] w' λe w''=>e= .returned (μ (jJ x.pk))/\ql w' w''):=κ λw' m=>gc x.pk _ _ _ w' (ai.keep m) aj
 have ad:=κ λ(w':World) (m:ql w w')=>gF (h.on m)
 have al:=κ h;clear h ai aj;rcases an with ⟨M,rfl⟩ | ⟨M,U,rfl⟩ | ⟨M,U,ab,rfl⟩ | ⟨M,U,ab,ak,rfl⟩
 ·have aa:=κ M;clear M
  go_enter func136,ntmps136
  go_wp2_with (first | (go_at_call 151;(go_call xX x.layer _ as e w1 ⟨rfl,ah⟩;subst w1;rw[aa.o])) | (refine yL (.load 63 (.tmp 15)) rfl ?_;refine xN rfl 63 (.tmp 15) rfl w.heap.size 3 rfl (Γh x.pk os G I ke J d) _ (ku (qj w (.cells (Γj x os G I ke J d) 253))) underlying63 rfl ξ ?_) | (go_at_call 92;(go_call Y.o _ W4 as e w2 ⟨rfl,H⟩;have O:Hid (ql w w2):=κ (W4.trans H);have ag:=κ (qq H (qj w (.cells (Γj x os G I ke J d) 253)));clear H)))
  refine bodyPost_ret (v:= .tuple #[ι 0,ύ,ι 1]) (by simp[results,results136,go_sem]) rfl ?_;exact⟨rfl,ρ⟩
 ·have aa:=κ M;rw[U] at Y;clear M U
  go_enter func136,ntmps136
  go_wp2_with (first | (go_at_call 151;(go_call xX x.layer _ as e w1 ⟨rfl,ah⟩;subst w1;rw[aa.o])) | (refine yL (.load 63 (.tmp 15)) rfl ?_;refine xN rfl 63 (.tmp 15) rfl w.heap.size 3 rfl (Γh x.pk os G I ke J d) _ (ku (qj w (.cells (Γj x os G I ke J d) 253))) underlying63 rfl ξ ?_) | (go_at_call 92;(go_call Y.o _ W4 as e w2 ⟨rfl,H⟩;have O:Hid (ql w w2):=κ (W4.trans H);have ag:=κ (qq H (qj w (.cells (Γj x os G I ke J d) 253)));clear H)))
  refine bodyPost_ret (v:= .tuple #[ι 0,ύ,ι 1]) (by simp[results,results136,go_sem]) rfl ?_;exact⟨rfl,O.o⟩
 ·have aa:=κ M;rw[U] at Y;rw[ab] at ad;clear M U ab
  go_enter func136,ntmps136
  go_wp2_with (first | (go_at_call 151;(go_call xX x.layer _ as e w1 ⟨rfl,ah⟩;subst w1;rw[aa.o])) | (refine yL (.load 63 (.tmp 15)) rfl ?_;refine xN rfl 63 (.tmp 15) rfl w.heap.size 3 rfl (Γh x.pk os G I ke J d) _ (ku (qj w (.cells (Γj x os G I ke J d) 253))) underlying63 rfl ξ ?_) | (go_at_call 92;(go_call Y.o _ W4 as e w2 ⟨rfl,H⟩;have O:Hid (ql w w2):=κ (W4.trans H);have ag:=κ (qq H (qj w (.cells (Γj x os G I ke J d) 253)));clear H)) | (go_at_call 69;(go_call ad.o _ O.o as e af ⟨rfl,ac⟩;have ae:Hid (ql w af):=κ (O.o.trans ac);clear ac)))
  refine bodyPost_ret (v:= .tuple #[ι 0,ύ,ι 7]) (by simp[results,results136,go_sem]) rfl ?_;exact⟨rfl,ae.o⟩
 ·have aa:=κ M;rw[U] at Y;rw[ab] at ad;have am:=κ ak;clear M U ab ak
  go_enter func136,ntmps136
  go_wp2_with (first | (go_at_call 151;(go_call xX x.layer _ as e w1 ⟨rfl,ah⟩;subst w1;rw[aa.o])) | (refine yL (.load 63 (.tmp 15)) rfl ?_;refine xN rfl 63 (.tmp 15) rfl w.heap.size 3 rfl (Γh x.pk os G I ke J d) _ (ku (qj w (.cells (Γj x os G I ke J d) 253))) underlying63 rfl ξ ?_) | (go_at_call 92;(go_call Y.o _ W4 as e w2 ⟨rfl,H⟩;have O:Hid (ql w w2):=κ (W4.trans H);have ag:=κ (qq H (qj w (.cells (Γj x os G I ke J d) 253)));clear H)) | (go_at_call 69;(go_call ad.o _ O.o as e af ⟨rfl,ac⟩;have ae:Hid (ql w af):=κ (O.o.trans ac);clear ac;have c4:af.cell? ⟨k.L,4,ϋ⟩=ϊ (μ ύ):=(by rw[<-am.o];exact qm (qq ae.o al.o.blk) 4 rfl))))
  refine bodyPost_ret (v:= .tuple #[ι 0,ύ,ι 5]) (by simp[results,results136,go_sem]) rfl ?_;exact⟨rfl,ae.o⟩
def Uy (h:LnX N w k vo s) (x:ItS) (os ab U:Option Addr) (ag ke M:Nat) (bd:PkS w (δ os x.pk.ss.length ag) (δ ab x.pk.ex.length ke) (δ U x.pk.pl.length M) x.pk) (af:uf x.pk) (bi:uj x.pk)
  (bP:jj x.layer=ό) (be:jJ x.pk=ό) (bJ:s.gone=ύ) (bQ:s.wanted=ό):
  Calls prog 136 #[γ k.L,(Γj x os ag ab ke U M)] w λe w'=>e= .returned (.tuple #[ι (if s.A.length<s.room then 0 else (s.A.head?.map (·.id)).getD 0),(decide (¬s.A.length<s.room)),ι 0])/\
   LnX (xf N w w') w' k vo {s with A:=if s.A.length<s.room then s.A++[x] else s.A.tail++[x]}/\jt N w w':=by
 have cc:Hid (∀w',ql w w'->Calls prog 92 #[(Γh x.pk os ag ab ke U M)] w' λe w''=>e= .returned (μ ό)/\ql w' w''):=κ λw' m=>by have:=gc x.pk _ _ _ w' (bd.keep m) bi;rw[be] at this;exact this
 have bW:Hid (∀(w':World),ql w w'->Calls prog 69 #[γ k.L] w' λe w''=>e= .returned (μ ύ)/\ql w' w''):=κ λw' m=>by have:=gF (h.on m);rw[bJ] at this;exact this
 have ce:=κ bP;have bZ:=κ be;have cf:=κ bQ;have I:=κ h;have aI:=κ bd;have ah:=κ bi;have bX:=κ af;have bw:=κ h.dist;obtain⟨cF,bh⟩:=ν ((if s.A.length<s.room then 0 else (s.A.head?.map (·.id)).getD 0));obtain⟨cE,bg⟩:=ν (decide (¬s.A.length<s.room));obtain⟨dk,bf⟩:=ν ((if s.A.length<s.room then s.A++[x] else s.A.tail++[x]));rw[bh,bg,bf];have cd:=κ bh;have cb:=κ bg;have ca:=κ bf;clear bh bg bf h bd bi af bP be bJ bQ
 go_enter func136,ntmps136
 go_wp2_with (first | (go_at_call 151;(go_call xX x.layer _ as e w1 ⟨rfl,cw⟩;subst w1;rw[ce.o])) | (refine yL (.load 63 (.tmp 15)) rfl ?_;refine xN rfl 63 (.tmp 15) rfl w.heap.size 3 rfl (Γh x.pk os ag ab ke U M) _ (ku (qj w (.cells (Γj x os ag ab ke U M) 253))) underlying63 rfl ξ ?_) | (go_at_call 92;(go_call cc.o _ W4 as e w2 ⟨rfl,bl⟩;have bx:Hid (ql w w2):=κ (W4.trans bl);have ck:=κ (qq bl (qj w (.cells (Γj x os ag ab ke U M) 253)));clear bl)) | (go_at_call 69;(go_call bW.o _ bx.o as e ax ⟨rfl,bm⟩;have aK:Hid (ql w ax):=κ (bx.o.trans bm);have aQ:=κ (qq bm ck.o);clear bm;have c4:ax.cell? ⟨k.L,4,ϋ⟩=ϊ (μ ό):=(by rw[<-cf.o];exact qm (qq aK.o I.o.blk) 4 rfl);have cL:ax.cell? ⟨w.heap.size,8,ϋ⟩=ϊ (δ os x.pk.ss.length ag):=qm aQ.o 8 rfl)) | (go_at_call 49;(go_call Ad _ x.pk.ss ax (aI.o.s.keep aK.o) ah.o.s as e w4 ⟨⟨v4,rfl,bo⟩,bn⟩;have ap:=κ bo;have bz:Hid (ql w w4):=κ (aK.o.trans bn);have au:=κ (qq bn aQ.o);obtain⟨Y,O,rfl⟩:=zA bo;clear bo bn;have cL:w4.cell? ⟨w.heap.size,8,ϋ⟩=ϊ (δ os x.pk.ss.length ag):=qm au.o 8 rfl;have dq:w4.frozen? ⟨w.heap.size,8,ϋ⟩=ύ:=yw au.o 8;have cJ:w4.cell? ⟨w.heap.size,11,ϋ⟩=ϊ (δ ab x.pk.ex.length ke):=qm au.o 11 rfl)) | (go_at_call 50;((with_reducible refine(wQ (δ ab x.pk.ex.length ke) x.pk.ex (w4.setCell ⟨w.heap.size,8,ϋ⟩ (δ Y x.pk.ss.length O)) (aI.o.e.keep (bz.o.st (ϕ _) _)) ah.o.e).mono ?_);rintro e w5 ⟨⟨v5,rfl,bp⟩,aD⟩;have aq:=κ bp;have bA:Hid (ql w w5):=κ ((bz.o.st (ϕ _) _).trans aD);have bB:Hid (jt (λb=>b=w.heap.size) w4 w5):=κ (((jt.refl (λb=>b=w.heap.size) w4).set (p:=⟨w.heap.size,8,ϋ⟩) rfl _).more aD);have av:Hid (w5.heap[w.heap.size]? =ϊ (.cells (Γj x Y O ab ke U M) 253 (0,0))):=κ (qq aD (qB (qp au.o 8 _) rfl));obtain⟨ac,aa,rfl⟩:=zA bp;clear bp aD;have cJ:w5.cell? ⟨w.heap.size,11,ϋ⟩=ϊ (δ ab x.pk.ex.length ke):=qm av.o 11 rfl;have dn:w5.frozen? ⟨w.heap.size,11,ϋ⟩=ύ:=yw av.o 11;have cK:w5.cell? ⟨w.heap.size,12,ϋ⟩=ϊ (δ U x.pk.pl.length M):=qm av.o 12 rfl)) | (go_at_call 50;((with_reducible refine(wQ (δ U x.pk.pl.length M) x.pk.pl (w5.setCell ⟨w.heap.size,11,ϋ⟩ (δ ac x.pk.ex.length aa)) (aI.o.l.keep (bA.o.st (ϕ _) _)) ah.o.l).mono ?_);rintro e w6 ⟨⟨dl,rfl,bq⟩,aE⟩;have ar:=κ bq;have ch:Hid (ql w w6):=κ ((bA.o.st (ϕ _) _).trans aE);have aM:Hid (jt (λb=>b=w.heap.size) w5 w6):=κ (((jt.refl (λb=>b=w.heap.size) w5).set (p:=⟨w.heap.size,11,ϋ⟩) rfl _).more aE);have aR:Hid (w6.heap[w.heap.size]? =ϊ (.cells (Γj x Y O ac aa U M) 253 (0,0))):=κ (qq aE (qB (qp av.o 11 _) rfl));obtain⟨ae,ad,rfl⟩:=zA bq;clear bq aE;have cK:w6.cell? ⟨w.heap.size,12,ϋ⟩=ϊ (δ U x.pk.pl.length M):=qm aR.o 12 rfl;have dp:w6.frozen? ⟨w.heap.size,12,ϋ⟩=ύ:=yw aR.o 12)))
 obtain⟨W7,aw⟩:=ν (w6.setCell ⟨w.heap.size,12,ϋ⟩ (δ ae x.pk.pl.length ad));have az:Hid (jt (λb=>b=w.heap.size) w6 W7):=κ (by rw[<-aw];exact(jt.refl (λb=>b=w.heap.size) w6).set (p:=⟨w.heap.size,12,ϋ⟩) rfl _);have aL:Hid (ql w W7):=κ (by rw[<-aw];exact ch.o.st (ϕ _) _);have cl:Hid (W7.heap[w.heap.size]? =ϊ (.cells (Γj x Y O ac aa ae ad) 253 (0,0))):=κ (by rw[<-aw];exact qB (qp aR.o 12 _) rfl);rw[aw];clear aw;have bu:=κ (qq aL.o I.o.blk);have dh:w.heap.size<ax.heap.size:=qn aQ.o;have di:w.heap.size<w4.heap.size:=qn au.o;have dj:w.heap.size<w5.heap.size:=qn av.o;have de:w4.heap.size<=w5.heap.size:=bB.o.size;have df:w5.heap.size<=w6.heap.size:=aM.o.size;have dg:w6.heap.size<=W7.heap.size:=az.o.size;have ci:Hid (SlI .u32 W7 (δ Y x.pk.ss.length O) x.pk.ss):=κ ((SlI.of_owns ap.o (by have:=ah.o.s;omega)).off (λb e H=>by have:=um ap.o e;omega) ((bB.o.trans aM.o).trans az.o));have cj:Hid (SlI .u8 W7 (δ ac x.pk.ex.length aa) x.pk.ex):=κ ((SlI.of_owns aq.o (by have:=ah.o.e;omega)).off (λb e H=>by have:=um aq.o e;simp at this;omega) (aM.o.trans az.o));have S6:Hid (SlI .u8 W7 (δ ae x.pk.pl.length ad) x.pk.pl):=κ ((SlI.of_owns ar.o (by have:=ah.o.l;omega)).off (λb e H=>by have:=um ar.o e;simp at this;omega) az.o);have aN:Hid (∀b,(δ Y x.pk.ss.length O).ownBlock=ϊ b->w.heap.size<=b/\b<W7.heap.size):=κ λb e=>by
  have aC:=um ap.o e;have bG:=Vg ap.o e;omega
 have aO:Hid (∀b,(δ ac x.pk.ex.length aa).ownBlock=ϊ b->w.heap.size<=b/\b<W7.heap.size):=κ λb e=>by
  have aC:=um aq.o e;have bG:=Vg aq.o e;simp at aC;omega
 have aP:Hid (∀b,(δ ae x.pk.pl.length ad).ownBlock=ϊ b->w.heap.size<=b/\b<W7.heap.size):=κ λb e=>by
  have aC:=um ar.o e;have bG:=Vg ar.o e;simp at aC;omega
 clear ap aq ar;obtain⟨cx,aF,cn,bD,cm,bC,co,aB,aA⟩:=I.o.r1;have bt:=κ aA;have bO:aF.length=s.A.length:=aA.len;have cT:k.R1<w.heap.size:=qn aB.ring;have cR:k.A1<w.heap.size:=qn aB.row;have ao:=κ (aB.more aL.o);obtain⟨y,aU,aW,aZ,aT,aS,aY,aX,bb,ba,bL,bM⟩:=Pd W7 k.R1 k.A1 s.room cx aF cn bD cm bC co ao.o (Km aA) (Γj x Y O ac aa ae ad) ⟨rfl,by simp[Value.oneCell']⟩;have aJ:=κ bM;have bY:=κ bL;clear bM bL aB aA;generalize bI:decide (¬aF.length<s.room)=dr at aJ;have bV:=κ bI;clear bI;have bR: ¬RgB k.R1 k.A1 k.L:=by
  obtain⟨⟨cp,cq,cr,ct,cu,cv⟩,_⟩:=bw.o;rintro(e | e)<;>omega
 have cD: ¬RgB k.R1 k.A1 w.heap.size:=by rintro(e | e)<;>omega
 go_cut [7,8,9] from 45 (λcG cH cI bs=> ∃C,cG= γ C/\cH= μ dr/\cI= ι 0/\bs.heap[C]? =ϊ (.cells #[ι y.id,ι y.layer,y.key,y.pk.mr,υ y.pk.ty,φ y.pk.sq,ω y.pk.st,ω y.pk.sc,δ aU aT aS,y.pk.has,φ y.pk.pr,δ aW aY aX,δ aZ bb ba] 253 (0,0))/\jt (RgB k.R1 k.A1) W7 bs/\ ∃am aj ai ak,qN 13 327 253 bs k.R1 k.A1 s.room am (vE s.room aF (Γj x Y O ac aa ae ad)) aj bD ai bC ak)
 case first=>
  have cM: ∀z:qz (RgB k.R1 k.A1) W7,z.w'.cell? ⟨k.L,1,ϋ⟩=ϊ (π (ϊ ⟨k.R1,0,ϋ⟩)):=λz=>qm (z.h.blk bu.o bR) 1 rfl
  have cg: ∀z:qz (RgB k.R1 k.A1) W7,z.w'.rangeAt w.heap.size 0 (Γj x Y O ac aa ae ad):=λz=>xy (z.h.blk cl.o cD)
  refine wC (RgB k.R1 k.A1) W7 14 (.op 0 ύ (.op 1 ύ (.op 2 ύ (.op 3 ύ (.op 4 ύ (.br [5,10] λk=>if k=5 then .op 6 ύ (.op 7 ύ (.op 8 ύ (.op 9 ύ (.op 10 ό (.op 11 ό (.op 12 ύ (.op 13 ύ (.done)))))))) else .op 5 ό (.op 6 ύ (.op 7 ύ (.op 8 ύ (.op 9 ύ (.op 11 ό (.op 12 ύ (.op 13 ύ (.done)))))))))))))) ξ ξ ?_
  iterate 4 (refine qH rfl rfl (qi σ) ?_;intro K d;go_big_quiet_op;go_big_quiet_on)
  refine QU rfl rfl (qi σ) 253 (.tmp 3) rfl w.heap.size 0 rfl (Γj x Y O ac aa ae ad) _ (λw' cB=>by obtain⟨z,rfl⟩:=cB;exact cg z) underlying253 rfl ξ ?_;intro K d;go_simp;refine d _ ?_;clear d K;refine wP ζ ?_ ?_
  ·(refine qO rfl rfl ?_;intro K d;unfold jn;go_simp)
   go_call aJ.o _ (ao.o.more (ql.drewN W7 1)) as e w9 ⟨rfl,J,a9⟩;have G:Hid (jt (RgB k.R1 k.A1) W7 w9):=κ (((jt.refl _ _).drewN 1).trans a9);have aH:=κ J;clear a9 J;refine⟨_,rfl,qi G.o,d _ _ ?_⟩;clear d K
   repeat (first | (refine jg rfl rfl (qi G.o) ?_) | (refine qH rfl rfl (qi G.o) ?_;intro K d;go_big_quiet_op;go_big_quiet_on))
   (refine qO rfl rfl ?_;intro K d;unfold jn;go_simp)
   refine⟨qi (G.o.alc _),d _ _ ?_⟩;clear d K;refine qO rfl rfl ?_;intro K d;refine jr 253 (.tmp 7) (.tmp 52) rfl w9.heap.size 253 _ #[ι y.id,ι y.layer,y.key,y.pk.mr,υ y.pk.ty,φ y.pk.sq,ω y.pk.st,ω y.pk.sc,δ aU aT aS,y.pk.has,φ y.pk.pr,δ aW aY aX,δ aZ bb ba] rfl rfl (qj w9 _) ξ rfl (all_oneCell_toArray W5) ?_;refine⟨qi ((G.o.alc _).rowNew G.o.size _), ?_⟩;go_simp;refine d _ _ ?_;clear d K
   repeat (first | (refine jg rfl rfl (qi ((G.o.alc _).rowNew G.o.size _)) ?_) | (refine qH rfl rfl (qi ((G.o.alc _).rowNew G.o.size _)) ?_;intro K d;go_big_quiet_op;go_big_quiet_on))
   refine zg ?_;go_wp2;go_meet;obtain⟨am,aj,ai,ak,J⟩:=aH.o;refine⟨_,rfl,rfl,rfl,jY (qj w9 _) _,(G.o.alc _).rowNew G.o.size _,am,aj,ai,ak,(J.more W4).away (EC _ _ _) ?_ ?_⟩
   ·have:=qn J.ring;omega
   ·have:=qn J.row;omega
  ·(refine qO rfl rfl ?_;intro K d;unfold jn;go_simp)
   refine⟨qi (((jt.refl _ W7).drewN 1).alc _),d _ _ ?_⟩;clear d K
   (refine qO rfl rfl ?_;intro K d;unfold jn;go_simp)
   go_call aJ.o _ (ao.o.more ((ql.drewN W7 1).al _)) as e w9 ⟨rfl,J,a9⟩;have G:Hid (jt (RgB k.R1 k.A1) W7 w9):=κ ((((jt.refl _ _).drewN 1).alc _).trans a9);have aH:=κ J;have cU:k.R1<W7.heap.size:=qn ao.o.ring;have cS:k.A1<W7.heap.size:=qn ao.o.row;have bv:Hid (w9.heap[W7.heap.size]? =ϊ (.cells Γa 253 (0,0))):=κ (a9.blk (qC rfl) X0);clear a9 J;refine⟨_,rfl,qi G.o,d _ _ ?_⟩;clear d K
   repeat (first | (refine jg rfl rfl (qi G.o) ?_) | (refine qH rfl rfl (qi G.o) ?_;intro K d;go_big_quiet_op;go_big_quiet_on))
   refine qO rfl rfl ?_;intro K d;refine jr 253 (.tmp 7) (.tmp 52) rfl W7.heap.size 253 _ #[ι y.id,ι y.layer,y.key,y.pk.mr,υ y.pk.ty,φ y.pk.sq,ω y.pk.st,ω y.pk.sc,δ aU aT aS,y.pk.has,φ y.pk.pr,δ aW aY aX,δ aZ bb ba] rfl rfl bv.o ξ rfl (all_oneCell_toArray W5) ?_;refine⟨qi (G.o.rowNew (ϕ _) _), ?_⟩;go_simp;refine d _ _ ?_;clear d K
   repeat (first | (refine jg rfl rfl (qi (G.o.rowNew (ϕ _) _)) ?_) | (refine qH rfl rfl (qi (G.o.rowNew (ϕ _) _)) ?_;intro K d;go_big_quiet_op;go_big_quiet_on))
   refine zg ?_;go_wp2;go_meet;obtain⟨am,aj,ai,ak,J⟩:=aH.o;exact⟨_,rfl,rfl,rfl,jY bv.o _,G.o.rowNew (ϕ _) _,am,aj,ai,ak,J.away (EC _ _ _) τ τ⟩
 case rest=>
 obtain⟨C,rfl,rfl,rfl,bE,aV,am,aj,ai,ak,bF⟩:=hcut;have an:=κ aV;have bU:=κ bF;have bT:Hid (wc.heap[k.L]? =ϊ (.cells (jQ k vo s) 153 (0,0))):=κ (aV.blk bu.o bR);have dm:wc.cell? ⟨C,0,ϋ⟩=ϊ (ι y.id):=qm bE 0 rfl;clear aV bF bE;go_wp2;refine bodyPost_ret (v:= .tuple #[ι y.id,dr,ι 0]) (by simp[results,results136,go_sem]) rfl ?_;obtain⟨⟨cp,cq,cr,ct,cu,cv⟩,⟨cw,cN,cO,cP,cQ⟩,⟨cV,cW,cX,cY⟩,⟨cZ,da,db⟩,⟨dc,dd⟩,_⟩:=bw.o;have aG:jt (RgB k.R1 k.A1) w wc:=(jt.of_more aL.o).trans an.o;have bK: ∀b,RgB k.R1 k.A1 b->k.muts b:=λb H=>ϔ (ϒ H)
 have ay:jt k.muts w wc:=aG.mono bK;have bS:jt (lnM k vo) w wc:=ay.mono λb H=>ϒ H
 have bj: ∀b,vo.ownBlock=ϊ b->vo.ownBlock=ϊ b∨w.heap.size<=b:=λb H=>ϒ H
 have bH: ∀b,RgB k.R1 k.A1 b->lnE N k vo b:=λb H=>kZ (bK b H)
 have af:=I.o.ok;have bk:W7.heap.size<=wc.heap.size:=an.o.size;have bc: ∀b,w.heap.size<=b-> ¬RgB k.R1 k.A1 b:=λb H e=>by rcases e with e | e<;>omega
 have cy:jw RIt (lnE (xf N w wc) k vo) wc (Γj x Y O ac aa ae ad) x:=λw'' a=>by
  refine⟨_,_,_,rfl,⟨?_, ?_, ?_⟩,bX.o,bZ.o⟩
  ·exact I.o.fresh (vo':=vo) (ci.o.off (λb e=>bc b (aN.o b e).1) an.o) (λb e=>⟨(aN.o b e).1,ϗ (aN.o b e).2 bk⟩) (λb e=>e) a
  ·exact I.o.fresh (vo':=vo) (cj.o.off (λb e=>bc b (aO.o b e).1) an.o) (λb e=>⟨(aO.o b e).1,ϗ (aO.o b e).2 bk⟩) (λb e=>e) a
  ·exact I.o.fresh (vo':=vo) (S6.o.off (λb e=>bc b (aP.o b e).1) an.o) (λb e=>⟨(aP.o b e).1,ϗ (aP.o b e).2 bk⟩) (λb e=>e) a
 have bN:=DY (R:=RIt) (D:=lnE (xf N w wc) k vo) (w:=wc) (room:=s.room) (bt.o.mono λc y cC=>I.o.held cC bS bj) cy;have cz:y.id=cF:=by rw[bY.o,bO,UQ bt.o];exact cd.o
 have cA:dr=cE:=by rw[<-bV.o,bO];exact cb.o
 rw[ca.o] at bN;rw[<-cz,<-cA];exact⟨rfl,I.o.make ay.size bT.o ⟨_,_,_,_,_,_,_,bU.o,bN⟩ (I.o.r2.step aG X0 X0 bH λb H=>ϒ (xE I.o.own bj H)) (I.o.r3.step aG X0 X0 bH λb H=>ϒ (xE I.o.own bj H)) (I.o.rows ay) ⟨af.most,af.row,af.lt,af.sq,af.src⟩,ay.mono λb H=>I.o.muts b H⟩
def Ii (h:LnX N w k vo s) (x:ItS) (os I J:Option Addr) (H ke G:Nat) (O:PkS w (δ os x.pk.ss.length H) (δ I x.pk.ex.length ke) (δ J x.pk.pl.length G) x.pk) (aa:uf x.pk) (U:uj x.pk):
  Calls prog 136 #[γ k.L,(Γj x os H I ke J G)] w λe w'=>e= .returned (.tuple #[ι (xp s x).2.1,μ (xp s x).2.2.1,ι (xp s x).2.2.2])/\LnX (xf N w w') w' k vo (xp s x).1/\jt N w w':=by
 by_cases h1:(jj x.layer&&jJ x.pk)=ύ
 ·have e:xp s x=(s,0,ύ,1):=by unfold xp;rw[ϐ h1]
  rw[e];refine(Qt h x os I J H ke G O U 1 ?_).mono ?_
  ·cases d:jj x.layer with
   | false=>exact ϒ ⟨rfl,rfl⟩
   | true=>rw[d] at h1;exact ϔ (ϒ ⟨rfl,by simpa using h1,rfl⟩)
  ·rintro e w' ⟨rfl,m⟩;exact⟨rfl,h.grow m,jt.of_more m⟩
 ·have d:jj x.layer=ό/\jJ x.pk=ό:=by simpa using h1
  cases hg:s.gone with
  | true=>
   have e:xp s x=(s,0,ύ,7):=by unfold xp;rw[ώ h1,ϐ hg]
   rw[e];refine(Qt h x os I J H ke G O U 7 (ϔ (ϔ (ϒ ⟨d.1,d.2,hg,rfl⟩)))).mono ?_;rintro e w' ⟨rfl,m⟩;exact⟨rfl,h.grow m,jt.of_more m⟩
  | false=>
   cases hw:s.wanted with
   | false=>
    have e:xp s x=(s,0,ύ,5):=by unfold xp;rw[ώ h1,ώ (by rw[hg];decide),ϐ hw]
    rw[e];refine(Qt h x os I J H ke G O U 5 (ϔ (ϔ (ϔ ⟨d.1,d.2,hg,hw,rfl⟩)))).mono ?_;rintro e w' ⟨rfl,m⟩;exact⟨rfl,h.grow m,jt.of_more m⟩
   | true=>
    have e:xp s x=((yX s x).1,(yX s x).2.1,(yX s x).2.2,0):=by unfold xp;rw[ώ h1,ώ (by rw[hg];decide),ώ (by rw[hw];decide)]
    rw[e];have M:=Uy h x os I J H ke G O aa U d.1 d.2 hg hw;by_cases hc:s.A.length<s.room
    ·have Y:yX s x=({s with A:=s.A++[x]},0,ύ):=by unfold yX;rw[ϐ hc]
     rw[Y];simp only[hc,A0,not_true,decide_false] at M;exact M
    ·have Y:yX s x=({s with A:=s.A.tail++[x]},(s.A.head?.map (·.id)).getD 0,ό):=by unfold yX;rw[ώ hc]
     rw[Y];simp only[hc,C2,not_false_iff,decide_true] at M;exact M
def Qv {d e n m:Nat} {xs:List Value} (h:w.ownsRow base e n v m xs) (I:d<=base):w.ownsRow d e n v m xs:=by
 obtain⟨G,H⟩:=h;refine⟨G, ?_⟩;rcases H with h | ⟨b,cap,cur,e1,hb1,rest⟩
 ·exact ϒ h
 ·exact ϔ ⟨b,cap,cur,e1,Ϙ I hb1,rest⟩
def Wl {d:Nat->Prop} {w1 w2:World} (G:w.heap.size<=w1.heap.size) (H:w1.heap.size<=w2.heap.size):xf (xf d w w1) w1 w2=xf d w w2:=by
 funext b
 apply propext;unfold xf;constructor
 ·rintro((e | e) | e)
  ·exact ϒ e
  ·exact ϔ ⟨e.1,τ⟩
  ·exact ϔ ⟨τ,e.2⟩
 ·rintro(e | e)
  ·exact ϒ (ϒ e)
  ·by_cases h:b<w1.heap.size
   ·exact ϒ (ϔ ⟨e.1,h⟩)
   ·exact ϔ ⟨τ,e.2⟩
def je.widen {α:Type} {n:Nat} {R:qL α} {D':Nat->Prop} {e:Nat} {L:List α} (h:je n R D w base e v L) (k: ∀b,D' b->D b∨w.heap.size<=b):je n R D' w base e v L:=by
 have I:=λ{b} (d:v.ownBlock=ϊ b)=>h.lt d
 obtain⟨⟨xs,o,r⟩,G⟩:=h;refine⟨⟨xs,o,λi hi=>(r i hi).other λb d=> ?_⟩,λb d H=> ?_⟩
 ·rcases d with e | e
  ·rcases k b e with e | e
   ·exact ϒ (ϒ e)
   ·exact ϔ e
  ·exact ϒ (ϔ e)
 ·rcases k b H with e | e
  ·exact G b d e
  ·have:=I d;omega
def ZT (a:zb (jw RIt D w) q l):q.map idN=l.map (·.id)/\ ∀c∈q,∃i r,c= ι i::r/\r.length=12:=by
 induction l generalizing q with
 | nil=>rw[a.nil_r];exact⟨rfl,λc d=>by simp at d⟩
 | cons y l ih=>
  obtain⟨c,q',rfl,I,a'⟩:=a.uncons;obtain⟨G,H⟩:=ih a';obtain⟨M,J,vp,rfl,_⟩:=I.read;refine⟨by rw[Ϭ,Ϭ,G];rfl,λc d=> ?_⟩;rcases ϰ.1 d with rfl | d
  ·exact⟨_,_,rfl,rfl⟩
  ·exact H c d
def VV {l:List (ItS×Bool)} (a:zb (jw RCh D w) q l):q.map idN=l.map (·.1.id)/\ ∀c∈q,∃i r,c= ι i::r/\r.length=13:=by
 induction l generalizing q with
 | nil=>rw[a.nil_r];exact⟨rfl,λc d=>by simp at d⟩
 | cons y l ih=>
  obtain⟨c,q',rfl,I,a'⟩:=a.uncons;obtain⟨G,H⟩:=ih a';obtain⟨M,J,vp,rfl,_⟩:=I.read;refine⟨by rw[Ϭ,Ϭ,G];rfl,λc d=> ?_⟩;rcases ϰ.1 d with rfl | d
  ·exact⟨_,_,rfl,rfl⟩
  ·exact H c d
def Vv {l:List (Int×List Int)} (a:zb (jw ROu D w) q l):q.map idN=l.map (·.1)/\ ∀c∈q,∃i r,c= ι i::r/\r.length=1:=by
 induction l generalizing q with
 | nil=>rw[a.nil_r];exact⟨rfl,λc d=>by simp at d⟩
 | cons y l ih=>
  obtain⟨c,q',rfl,I,a'⟩:=a.uncons;obtain⟨G,H⟩:=ih a';obtain⟨v,rfl,_⟩:=I.read;refine⟨by rw[Ϭ,Ϭ,G];rfl,λc d=> ?_⟩;rcases ϰ.1 d with rfl | d
  ·exact⟨_,_,rfl,rfl⟩
  ·exact H c d
def Z1 (h:LnX N w k vo s):Calls prog 126 #[γ k.L,ι 1] w λe w'=>(∃v,e= .returned v/\w'.ownsRow w.heap.size 3 1 v (s.A.map (·.id)).length ((s.A.map (·.id)).map (Value.int .i64)))/\LnX (xf N w w') w' k vo {s with A:=[]}/\jt k.muts w w':=by
 have c1:w.cell? ⟨k.L,1,ϋ⟩=ϊ (π (ϊ ⟨k.R1,0,ϋ⟩)):=qm h.blk 1 rfl;have G:=κ h;have ah:=κ h.dist;obtain⟨aw,O,ar,au,ap,aq,av,H,I⟩:=h.r1;have ai:=κ H;have an:=κ (ZT I).2;have ak:=κ (ZT I).1;have ao:Hid (∀c∈O,∀u∈c,u.oneCell'=ό):=κ λc ay=>(H.qall c ay).2
 have az:O.length<=8:=by have:=H.fits;have:=H.pos;omega
 clear h H I
 go_enter func126,ntmps126
 go_wp2_with (first | (go_at_call 180;(go_call IN w k.R1 k.A1 s.room aw O ar au ap aq av ai.o as e w1 ⟨aA,rfl,ag,H,I⟩;have al:=κ ag;have aj:=κ H;have Y:=κ I;clear ag H I)) | (go_at_call 179;(go_call Nl w1 aA O w.heap.size al.o an.o ao.o az as e w2 ⟨⟨aY,rfl,o2⟩,af⟩;have am:=κ o2;have aa:=κ af;clear o2 af)))
 go_ret;obtain⟨⟨aD,aE,aF,aG,aH,aI⟩,⟨aJ,aK,aL,aM,aN⟩,⟨aP,aQ,aR,aS⟩,⟨aT,aU,aV⟩,⟨aW,aX⟩,_⟩:=ah.o;have M:jt (RgB k.R1 k.A1) w w2:=Y.o.more aa.o;have ad: ∀b,RgB k.R1 k.A1 b->k.muts b:=λb d=>ϔ (ϒ d)
 have U:jt k.muts w w2:=M.mono ad;have ae: ∀b,vo.ownBlock=ϊ b->vo.ownBlock=ϊ b∨w.heap.size<=b:=λb d=>ϒ d
 have ac: ∀b,RgB k.R1 k.A1 b->lnE N k vo b:=λb d=>kZ (ad b d)
 have J:=G.o.ok;obtain⟨aO,aB,aC,ax⟩:=aj.o;have ab:=Qv am.o Y.o.size;rw[ak.o] at ab;exact⟨⟨_,rfl,ab⟩,G.o.make U.size (M.blk G.o.blk X0) ⟨_,_,_,_,_,_,_,ax.more aa.o,trivial⟩ (G.o.r2.step M X0 X0 ac λb d=>ϒ (xE G.o.own ae d)) (G.o.r3.step M X0 X0 ac λb d=>ϒ (xE G.o.own ae d)) (G.o.rows U) ⟨J.most,J.row,J.lt,J.sq,J.src⟩,U⟩
def ZZ (h:LnX N w k vo s):Calls prog 126 #[γ k.L,ι 2] w λe w'=>(∃v,e= .returned v/\w'.ownsRow w.heap.size 3 1 v (s.B.map (·.1.id)).length ((s.B.map (·.1.id)).map (Value.int .i64)))/\LnX (xf N w w') w' k vo {s with B:=[]}/\jt k.muts w w':=by
 have c1:w.cell? ⟨k.L,2,ϋ⟩=ϊ (π (ϊ ⟨k.R2,0,ϋ⟩)):=qm h.blk 2 rfl;have G:=κ h;have ag:=κ h.dist;obtain⟨av,O,aq,ar,ao,ap,au,H,I⟩:=h.r2;have ah:=κ H;have am:=κ (VV I).2;have aj:=κ (VV I).1;have an:Hid (∀c∈O,∀u∈c,u.oneCell'=ό):=κ λc ax=>(H.qall c ax).2
 have ay:O.length<=8:=by have:=H.fits;have:=H.pos;omega
 clear h H I
 go_enter func126,ntmps126
 go_wp2_with (first | (go_at_call 183;(go_call IO w k.R2 k.A2 s.room av O aq ar ao ap au ah.o as e w1 ⟨az,rfl,af,H,I⟩;have ak:=κ af;have ai:=κ H;have A2:=κ I;clear af H I)) | (go_at_call 182;(go_call Nm w1 az O w.heap.size ak.o am.o an.o ay as e w2 ⟨⟨aX,rfl,o2⟩,ae⟩;have al:=κ o2;have Y:=κ ae;clear o2 ae)))
 go_ret;obtain⟨⟨aC,aD,aE,aF,aG,aH⟩,⟨aI,aJ,aK,aL,aM⟩,⟨aO,aP,aQ,aR⟩,⟨aS,aT,aU⟩,⟨aV,aW⟩,_⟩:=ag.o;have M:jt (RgB k.R2 k.A2) w w2:=A2.o.more Y.o;have ac: ∀b,RgB k.R2 k.A2 b->k.muts b:=λb d=>ϔ (ϔ (ϒ d))
 have U:jt k.muts w w2:=M.mono ac;have ad: ∀b,vo.ownBlock=ϊ b->vo.ownBlock=ϊ b∨w.heap.size<=b:=λb d=>ϒ d
 have ab: ∀b,RgB k.R2 k.A2 b->lnE N k vo b:=λb d=>kZ (ac b d)
 have J:=G.o.ok;obtain⟨aN,aA,aB,aw⟩:=ai.o;have aa:=Qv al.o A2.o.size;rw[aj.o] at aa;exact⟨⟨_,rfl,aa⟩,G.o.make U.size (M.blk G.o.blk X0) (G.o.r1.step M X0 X0 ab λb d=>ϒ (xE G.o.own ad d)) ⟨_,_,_,_,_,_,_,aw.more Y.o,trivial⟩ (G.o.r3.step M X0 X0 ab λb d=>ϒ (xE G.o.own ad d)) (G.o.rows U) ⟨J.most,J.row,J.lt,J.sq,J.src⟩,U⟩
def ZY (h:LnX N w k vo s):Calls prog 126 #[γ k.L,ι 3] w λe w'=>(∃v,e= .returned v/\w'.ownsRow w.heap.size 3 1 v (s.C.map (·.1)).length ((s.C.map (·.1)).map (Value.int .i64)))/\LnX (xf N w w') w' k vo {s with C:=[]}/\jt k.muts w w':=by
 have c1:w.cell? ⟨k.L,3,ϋ⟩=ϊ (π (ϊ ⟨k.R3,0,ϋ⟩)):=qm h.blk 3 rfl;have G:=κ h;have ah:=κ h.dist;obtain⟨aw,O,ar,au,ap,aq,av,H,I⟩:=h.r3;have ai:=κ H;have an:=κ (Vv I).2;have ak:=κ (Vv I).1;have ao:Hid (∀c∈O,∀u∈c,u.oneCell'=ό):=κ λc ay=>(H.qall c ay).2
 have az:O.length<=8:=by have:=H.fits;have:=H.pos;omega
 clear h H I
 go_enter func126,ntmps126
 go_wp2_with (first | (go_at_call 186;(go_call IM w k.R3 k.A3 s.room aw O ar au ap aq av ai.o as e w1 ⟨aA,rfl,ag,H,I⟩;have al:=κ ag;have aj:=κ H;have Y:=κ I;clear ag H I)) | (go_at_call 185;(go_call Nk w1 aA O w.heap.size al.o an.o ao.o az as e w2 ⟨⟨aY,rfl,o2⟩,af⟩;have am:=κ o2;have aa:=κ af;clear o2 af)))
 go_ret;obtain⟨⟨aD,aE,aF,aG,aH,aI⟩,⟨aJ,aK,aL,aM,aN⟩,⟨aP,aQ,aR,aS⟩,⟨aT,aU,aV⟩,⟨aW,aX⟩,_⟩:=ah.o;have M:jt (RgB k.R3 k.A3) w w2:=Y.o.more aa.o;have ad: ∀b,RgB k.R3 k.A3 b->k.muts b:=λb d=>ϔ (ϔ (ϔ d))
 have U:jt k.muts w w2:=M.mono ad;have ae: ∀b,vo.ownBlock=ϊ b->vo.ownBlock=ϊ b∨w.heap.size<=b:=λb d=>ϒ d
 have ac: ∀b,RgB k.R3 k.A3 b->lnE N k vo b:=λb d=>kZ (ad b d)
 have J:=G.o.ok;obtain⟨aO,aB,aC,ax⟩:=aj.o;have ab:=Qv am.o Y.o.size;rw[ak.o] at ab;exact⟨⟨_,rfl,ab⟩,G.o.make U.size (M.blk G.o.blk X0) (G.o.r1.step M X0 X0 ac λb d=>ϒ (xE G.o.own ae d)) (G.o.r2.step M X0 X0 ac λb d=>ϒ (xE G.o.own ae d)) ⟨_,_,_,_,_,_,_,ax.more aa.o,trivial⟩ (G.o.rows U) ⟨J.most,J.row,J.lt,J.sq,J.src⟩,U⟩
def vh (s:LnS) (n:Int):LnS:={s with A:=if n=1 then [] else s.A,B:=if n=2 then [] else s.B,C:=if n=3 then [] else s.C}
def Cm (h:LnX N w k vo s) (n:Int) (H:n=1∨n=2∨n=3):Calls prog 126 #[γ k.L,ι n] w λe w'=>(∃v,e= .returned v)/\LnX (xf N w w') w' k vo (vh s n)/\jt k.muts w w':=by
 rcases H with rfl | rfl | rfl
 ·refine(Z1 h).mono ?_;rintro e w' ⟨⟨v,rfl,_⟩,d,G⟩;exact⟨⟨v,rfl⟩,d,G⟩
 ·refine(ZZ h).mono ?_;rintro e w' ⟨⟨v,rfl,_⟩,d,G⟩;exact⟨⟨v,rfl⟩,d,G⟩
 ·refine(ZY h).mono ?_;rintro e w' ⟨⟨v,rfl,_⟩,d,G⟩;exact⟨⟨v,rfl⟩,d,G⟩
def zt (g b n:Int):Int×Int:=
 if 63<n-g then (n,1) else if 0<n-g then (n,bits .or .u64 (IntKind.u64.wrap (b* 2 ^ (n-g).toNat)) 1)
 else if-63<=n-g then (g,lay b (-(n-g)) 1 1) else (g,b)
def yi (g b m:Int):Bool:=decide (m<=g/\g-m<=63)&&b.toNat.testBit (g-m).toNat
def DV (i:Nat):Nat.testBit 1 i=decide (i=0):=by
 cases i with
 | zero=>rfl
 | succ i=>simp[Nat.testBit_succ]
def D7 (b:Int) (k:Nat) (H:U64 b) (N:0<k) (M:k<=63):
  U64 (bits .or .u64 (IntKind.u64.wrap (b* 2 ^ k)) 1)/\ ∀i:Nat,i<64->(bits .or .u64 (IntKind.u64.wrap (b* 2 ^ k)) 1).toNat.testBit i=(decide (i=0)||(decide (k<=i)&&b.toNat.testBit (i-k))):=by
 obtain⟨d,J⟩:=H;obtain⟨B,rfl⟩:=Γ d;have e:IntKind.u64.wrap ((B:Int)* 2 ^ k)=((B* 2 ^ k%2 ^ 64:Nat):Int):=by
  rw[IntKind.wrap_u64,I0,Int.natCast_mul];simp
 have I:B* 2 ^ k%2 ^ 64<2 ^ 64:=I6 _ ζ;have G:bits .or .u64 (IntKind.u64.wrap ((B:Int)* 2 ^ k)) 1=((B* 2 ^ k%2 ^ 64||| 1:Nat):Int):=by
  rw[e,show (1:Int)=((1:Nat):Int) from rfl,u64_or_nat _ _ τ τ]
 have O:(B* 2 ^ k%2 ^ 64||| 1)<2 ^ 64:=Nat.or_lt_two_pow I ζ;rw[G];refine⟨⟨τ,τ⟩,λi hi=> ?_⟩;rw[ο,ο,Nat.testBit_or,Nat.testBit_mod_two_pow,Nat.testBit_mul_two_pow,DV];simp only[hi,decide_true,I8];rw[Bool.or_comm]
def QD (g b n:Int):(zt g b n).1=max g n:=by
 unfold zt;split
 ·simp;omega
 ·split
  ·simp;omega
  ·split<;>(simp;omega)
def VG (g b n:Int) (d:U64 b):U64 (zt g b n).2:=by
 unfold zt;split
 ·exact⟨(by decide:(0:Int)<=1),(by decide:(1:Int)<=18446744073709551615)⟩
 ·split
  ·exact(D7 b _ d τ τ).1
  ·split
   ·exact EW _ _ _ _ d
   ·exact d
def EU (b k:Int) (G:U64 b) (d:0<=k/\k<=63) (i:Nat) (hi:i<64):(lay b k 1 1).toNat.testBit i=(decide (i=k.toNat)||b.toNat.testBit i):=by
 rw[Py b k 1 1 ⟨d.1,d.2,τ,τ⟩,Qa];simp only[hi,decide_true,I8];by_cases h:i=k.toNat
 ·subst h;simp
 ·rw[ώ (by simp;omega)];simp[h]
def ZR (g b n m:Int) (M:U64 b):yi (zt g b n).1 (zt g b n).2 m=(decide (m<=max g n/\max g n-m<=63)&&(decide (m=n)||yi g b m)):=by
 have N:=QD g b n;by_cases hin:m<=max g n/\max g n-m<=63
 ·rw[show yi (zt g b n).1 (zt g b n).2 m=(zt g b n).2.toNat.testBit (max g n-m).toNat from by unfold yi;rw[N];simp[hin]];simp only[hin,and_self,decide_true,I8];unfold zt;by_cases h1:63<n-g
  ·rw[ϐ h1];have e:max g n=n:=by omega
   rw[e] at *;unfold yi;by_cases d:m=n
   ·subst d;simp
   ·have:(n-m).toNat≠0:=by omega
    simp only[d,decide_false,Bool.false_or];have I: ¬(m<=g/\g-m<=63):=by omega
    simp only[I,decide_false,K3];rw[show (1:Int).toNat=1 from rfl,DV];simp;omega
  ·rw[ώ h1];by_cases I:0<n-g
   ·rw[ϐ I];have e:max g n=n:=by omega
    rw[e] at *;simp only[];rw[(D7 b (n-g).toNat M τ τ).2 _ τ];unfold yi;by_cases d:m=n
    ·subst d;simp
    ·have G:(n-m).toNat≠0:=by omega
     by_cases h4:m<=g
     ·have J:(n-g).toNat<=(n-m).toNat:=by omega
      have H:m<=g/\g-m<=63:=by omega
      simp only[d,G,J,H,and_self,decide_true,decide_false,Bool.false_or,I8];rw[show (n-m).toNat-(n-g).toNat=(g-m).toNat from by omega]
     ·have J: ¬(n-g).toNat<=(n-m).toNat:=by omega
      simp[d,G,h4,J]
   ·rw[ώ I];have e:max g n=g:=by omega
    rw[e] at *;by_cases G: -63<=n-g
    ·rw[ϐ G,EU b _ M τ _ τ];unfold yi;have H:m<=g/\g-m<=63:=by omega
     have O:decide ((g-m).toNat=(-(n-g)).toNat)=decide (m=n):=by rw[E0];simp;omega
     rw[O];simp[H]
    ·rw[ώ G];unfold yi;have d:m≠n:=by omega
     have H:m<=g/\g-m<=63:=by omega
     simp[d,H]
 ·have:yi (zt g b n).1 (zt g b n).2 m=ύ:=by
   unfold yi;rw[N];simp only[hin,decide_false,K3]
  rw[this];simp only[hin,decide_false,K3]
def Eb (g b c:Int) (H:U64 b) (I:U64 c) (h: ∀m,yi g b m=yi g c m):b=c:=by
 obtain⟨d,J⟩:=H;obtain⟨G,c1⟩:=I;obtain⟨B,rfl⟩:=Γ d;obtain⟨C,rfl⟩:=Γ G;have:B=C:=by
  apply BN τ τ;intro i hi;have:=h (g-i);unfold yi at this;have e:g-(i:Int)<=g/\g-(g-(i:Int))<=63:=by omega
  simp only[e,and_self,decide_true,I8,ο] at this
  rwa [show (g-(g-(i:Int))).toNat=i from by omega] at this
 rw[this]
def WX {g b m:Int} (h:yi g b m=ό):m<=g/\g-m<=63:=by
 unfold yi at h;simp only[B9,C4] at h;exact h.1
def IC (g b n:Int) (d:U64 b) (h:g-63<=n):((zt g b n).1==g&&(zt g b n).2==b)=yi g b n:=by
 have G:=QD g b n;by_cases hle:n<=g
 ·have e:(zt g b n).1=g:=by rw[G];omega
  rw[e];simp only[BEq.rfl,I8];by_cases hk:yi g b n=ό
  ·rw[hk,beq_iff_eq];apply Eb g _ _ (VG g b n d) d;intro m;have:=ZR g b n m d;rw[e] at this;rw[this];by_cases hm:m=n
   ·subst hm;rw[hk];have:=WX hk;simp;omega
   ·by_cases hkm:yi g b m=ό
    ·have:=WX hkm;simp[hkm];omega
    ·simp only[Bool.not_eq_true] at hkm;simp[hm,hkm]
  ·simp only[Bool.not_eq_true] at hk;rw[hk];simp only[beq_eq_false_iff_ne,ne_eq];intro H;have:=ZR g b n n d;rw[e,H,hk] at this;simp at this;omega
 ·have e:((zt g b n).1==g)=ύ:=by rw[G];simp;omega
  rw[e,K3];unfold yi;have: ¬(n<=g/\g-n<=63):=by omega
  simp[this]
def Gx:prog.eqGuardType prog.depth 233=ύ:=by kernel_rfl
def Ya (n:Int) (w:World):
  Calls prog 237 #[ι n] w λe w'=>e= .returned (θ #[ι n,ψ 1])/\ql w w':=by
 go_enter func237,ntmps237
 go_wp2;exact bodyPost_ret (v:= θ #[ι n,ψ 1]) (by simp[results,results237,go_sem]) rfl ⟨rfl,(ql.refl _).al _⟩
def CJ (g b n:Int) (H: -2305843009213693952<=g/\g<=2305843009213693952) (I: -2305843009213693952<=n/\n<=2305843009213693952) (N:63<n-g) (w:World):
  Calls prog 236 #[θ #[ι g,ψ b],ι n] w λe w'=>e= .returned (θ #[ι n,ψ 1])/\ql w w':=by
 obtain⟨J,M⟩:=H;obtain⟨U,n2⟩:=I
 go_enter func236,ntmps236
 go_wp2_with (go_at_call 237;refine(Ya n _).mono ?_;rintro e w1 ⟨rfl,d⟩;obtain⟨G,O⟩:=d.rules)
 refine bodyPost_ret (v:= θ #[ι n,ψ 1]) (by simp[results,results236,go_sem,G]) rfl ⟨rfl, ?_⟩;exact((((ql.refl w).al _).al _ |>.trans d).st η _).st η _
def FQ (g b n:Int) (d: -2305843009213693952<=g/\g<=2305843009213693952) (G: -2305843009213693952<=n/\n<=2305843009213693952) (J:n-g<=63) (M:0<n-g) (w:World):
  Calls prog 236 #[θ #[ι g,ψ b],ι n] w λe w'=>e= .returned (θ #[ι n,ψ (bits .or .u64 (IntKind.u64.wrap (b* 2 ^ (n-g).toNat)) 1)])/\ql w w':=by
 obtain⟨H,I⟩:=d;obtain⟨N,n2⟩:=G
 go_enter func236,ntmps236
 go_wp2;refine bodyPost_ret (v:= θ #[ι n,ψ (bits .or .u64 (IntKind.u64.wrap (b* 2 ^ (n-g).toNat)) 1)]) (by simp[results,results236,go_sem]) rfl ⟨rfl, ?_⟩;exact((ql.refl w).al _).al _
def CI (g b n:Int) (d: -2305843009213693952<=g/\g<=2305843009213693952) (G: -2305843009213693952<=n/\n<=2305843009213693952) (J:n-g< -63) (w:World):
  Calls prog 236 #[θ #[ι g,ψ b],ι n] w λe w'=>e= .returned (θ #[ι g,ψ b])/\ql w w':=by
 obtain⟨H,I⟩:=d;obtain⟨M,n2⟩:=G
 go_enter func236,ntmps236
 go_wp2;refine bodyPost_ret (v:= θ #[ι g,ψ b]) (by simp[results,results236,go_sem]) rfl ⟨rfl, ?_⟩;exact((ql.refl w).al _).al _
def FR (g b n:Int) (I: -2305843009213693952<=g/\g<=2305843009213693952) (J: -2305843009213693952<=n/\n<=2305843009213693952) (G:U64 b) (Y:n-g<=0) (aa: -63<=n-g) (w:World):
  Calls prog 236 #[θ #[ι g,ψ b],ι n] w λe w'=>e= .returned (θ #[ι g,ψ (lay b (-(n-g)) 1 1)])/\ql w w':=by
 obtain⟨O,U⟩:=I;obtain⟨ac,n2⟩:=J;have H:=κ G;clear G;have M: ∀x:qt (w.alloc (.cells #[ι g,ψ b] 233)),x.w'.cell? ⟨w.heap.size,0,ϋ⟩=ϊ (ι g):=λx=>x.new 0 rfl
 have N: ∀x:qt (w.alloc (.cells #[ι g,ψ b] 233)),x.w'.cell? ⟨w.heap.size,1,ϋ⟩=ϊ (ψ b):=λx=>x.new 1 rfl
 go_enter func236,ntmps236
 go_wp2_with fail
 refine Qn (w.alloc (.cells #[ι g,ψ b] 233)) 8 9 [6,8] ?_
 refine Qq6 ?_
 (refine Ql ?_;intro K d)
 refine(FV b 1 _ _ H.o ζ (by unfold I64;omega) ζ _).mono ?_;rintro e w2 ⟨rfl,ab,rfl⟩;refine⟨_,rfl,qk ((W4.dr _).dr _),d _ _ ?_⟩;clear d K
 refine Qq1 ?_
 (refine Qe ?_;intro K d)
 refine d _ _ ?_;clear d K;refine qA ?_;go_wp2;refine bodyPost_ret (v:= θ #[ι g,ψ (lay b (-(n-g)) 1 1)]) (by simp[results,results236,go_sem]) rfl ⟨rfl, ?_⟩;exact(((((ql.refl w).al _).al _).dr _).st η _).st η _
def Mid (n:Int):Prop:= -2305843009213693952<=n/\n<=2305843009213693952
instance (n:Int):Decidable (Mid n):=by unfold Mid;infer_instance
def gS (g b n:Int) (d:Mid g) (G:Mid n) (H:U64 b) (w:World):
  Calls prog 236 #[θ #[ι g,ψ b],ι n] w λe w'=>e= .returned (θ #[ι (zt g b n).1,ψ (zt g b n).2])/\ql w w':=by
 by_cases h1:63<n-g
 ·rw[show zt g b n=(n,1) from by unfold zt;rw[ϐ h1]];exact CJ g b n d G h1 w
 ·by_cases h2:0<n-g
  ·rw[show zt g b n=(n,bits .or .u64 (IntKind.u64.wrap (b* 2 ^ (n-g).toNat)) 1) from by unfold zt;rw[ώ h1,ϐ h2]];exact FQ g b n d G τ h2 w
  ·by_cases h3: -63<=n-g
   ·rw[show zt g b n=(g,lay b (-(n-g)) 1 1) from by unfold zt;rw[ώ h1,ώ h2,ϐ h3]];exact FR g b n d G H τ h3 w
   ·rw[show zt g b n=(g,b) from by unfold zt;rw[ώ h1,ώ h2,ώ h3]];exact CI g b n d G τ w
def FX (g b n:Int) (U:Mid g) (Y:Mid n) (N:U64 b) (w:World):
  Calls prog 248 #[θ #[ι g,ψ b],ι n] w λe w'=>e= .returned (μ (yi g b n))/\ql w w':=by
 have I:=κ N;have J:=κ U;have M:=κ Y;have O:U64 b:=N;clear N;obtain⟨ad,ae⟩:=U;obtain⟨ag,n2⟩:=Y;have ab: ∀x:qt (w.alloc (.cells #[ι g,ψ b] 233)),x.w'.cell? ⟨w.heap.size,0,ϋ⟩=ϊ (ι g):=λx=>x.new 0 rfl
 have ac: ∀x:qt (w.alloc (.cells #[ι g,ψ b] 233)),x.w'.cell? ⟨w.heap.size,1,ϋ⟩=ϊ (ψ b):=λx=>x.new 1 rfl
 have aa:=Gx;by_cases hlt:g-63<=n
 ·have H:=IC g b n O hlt;clear O;by_cases e1:(zt g b n).1=g
  ·by_cases e2:(zt g b n).2=b
   ·have d:=κ (show ό=yi g b n by rw[<-H];simp[e1,e2]);clear H
    go_enter func248,ntmps248
    go_wp2;refine qD (w.alloc (.cells #[ι g,ψ b] 233)) (ql.refl _) ξ ξ ?_
    repeat (go_big_quiet_step ((go_at_call 236;exact j6 (gS g b n J.o M.o I.o _))))
    refine wpQuiet_nil ?_;intro _ G;obtain⟨x,rfl⟩:=G;go_wp2;go_ret;exact⟨qZ d.o,W4.trans x.h⟩
   ·have d:=κ (show ύ=yi g b n by rw[<-H];simp[e2]);clear H
    go_enter func248,ntmps248
    go_wp2;refine qD (w.alloc (.cells #[ι g,ψ b] 233)) (ql.refl _) ξ ξ ?_
    repeat (go_big_quiet_step ((go_at_call 236;exact j6 (gS g b n J.o M.o I.o _))))
    refine wpQuiet_nil ?_;intro _ G;obtain⟨x,rfl⟩:=G;go_wp2;go_ret;exact⟨qZ d.o,W4.trans x.h⟩
  ·have d:=κ (show ύ=yi g b n by rw[<-H];simp[e1]);clear H
   go_enter func248,ntmps248
   go_wp2;refine qD (w.alloc (.cells #[ι g,ψ b] 233)) (ql.refl _) ξ ξ ?_
   repeat (go_big_quiet_step ((go_at_call 236;exact j6 (gS g b n J.o M.o I.o _))))
   refine wpQuiet_nil ?_;intro _ G;obtain⟨x,rfl⟩:=G;go_wp2;go_ret;exact⟨qZ d.o,W4.trans x.h⟩
 ·have d:=κ (show ύ=yi g b n by unfold yi;simp[show ¬(n<=g/\g-n<=63) by omega]);clear O;have af:decide (g-63<=n)=ύ:=by simp;omega
  clear hlt
  go_enter func248,ntmps248
  go_wp2;refine qD (w.alloc (.cells #[ι g,ψ b] 233)) (ql.refl _) ξ ξ ?_
  repeat (go_big_quiet_step (fail))
  refine wpQuiet_nil ?_;intro _ G;obtain⟨x,rfl⟩:=G;go_wp2;go_ret;exact⟨qZ d.o,W4.trans x.h⟩
abbrev Hd:=Int×Int×Int
variable {L:List Hd} {p:Hd->Bool}
def hd1 (h:Hd):List Value:=[.int .i64 h.1,.int .i64 h.2.1,.int .i64 h.2.2]
def hdC (l:List Hd):List Value:=l.flatMap hd1
def gP (h:Hd) (l:List Hd):hdC (h::l)=hd1 h++hdC l:=rfl
def uT (k l:List Hd):hdC (k++l)=hdC k++hdC l:=by simp[hdC]
def yu (l:List Hd):(hdC l).length=l.length* 3:=by
 induction l with
 | nil=>rfl
 | cons p l ih=>rw[gP,Ϗ,ih,ϙ];simp[hd1];omega
def Ac: ∀(l:List Hd) (i:Nat),i<l.length->(hdC l)[i* 3]? =ϊ (ι (l.getD i (0,0,0)).1)/\(hdC l)[i* 3+1]? =ϊ (ι (l.getD i (0,0,0)).2.1)/\(hdC l)[i* 3+2]? =ϊ (ι (l.getD i (0,0,0)).2.2)
 | [],_,h=>ϩ h η
 | h::l,0,_=>⟨rfl,rfl,rfl⟩
 | h::l,i+1,hi=>by
  have d:=Ac l i (by simpa using hi);have e: ∀c,(hdC (h::l))[(i+1)* 3+c]? =(hdC l)[i* 3+c]? :=by
   intro c;rw[gP,Ϻ (by simp[hd1];omega)]
   congr 1
   simp[hd1];omega
  have e0:=e 0;rw[G7,G7] at e0;rw[e0,e 1,e 2];exact d
def YE (l:List Hd): ∀u∈hdC l,u.oneCell'=ό:=by
 intro u d;obtain⟨h,_,d⟩:=List.mem_flatMap.1 d;simp[hd1] at d;rcases d with rfl | rfl | rfl<;>rfl
def zT (w:World) (base:Nat) (v:Value) (L:List Hd):Prop:=w.ownsRow base 338 3 v L.length (hdC L)
def zT.more (h:zT w base v L) (m:ql w w'):zT w' base v L:=jE h m
def zT.shape (h:zT w base v L): ∃oa cap,v= δ oa L.length cap/\(L.length:Int)<=9223372036854775807:=by
 rcases h.2 with ⟨rfl,d⟩ | ⟨g,cap,cur,rfl,_,_,H,G,_⟩
 ·exact⟨ϋ,0,by rw[d],τ⟩
 ·exact⟨_,cap,rfl,by unfold maxLen at G;omega⟩
def zT.cell (h:zT w base v L) (i:Nat) (hi:i<L.length):
  ∃g cap,v= δ (ϊ ⟨g,0,ϋ⟩) L.length cap/\base<=g/\g<w.heap.size/\ ∀x,ql w x->x.cell? ⟨g,i* 3,ϋ⟩=ϊ (ι (L.getD i (0,0,0)).1)/\x.cell? ⟨g,i* 3+1,ϋ⟩=ϊ (ι (L.getD i (0,0,0)).2.1)/\x.cell? ⟨g,i* 3+2,ϋ⟩=ϊ (ι (L.getD i (0,0,0)).2.2):=by
 rcases h.2 with ⟨rfl,N⟩ | ⟨g,cap,cur,rfl,I,d,U,O,Y,M⟩
 ·omega
 ·refine⟨g,cap,rfl,I,lt_of_block d,λx m=> ?_⟩;obtain⟨a0,G,H⟩:=Ac L i hi;have key: ∀j,j<L.length* 3->x.cell? ⟨g,j,ϋ⟩=(hdC L)[j]? :=by
   intro j J;rw[m.cells g j (lt_of_block d),cell_of_row w g _ cur _ (0,0) d,<-M,B3,ϐ J];simp
  exact⟨by rw[key _ τ];exact a0,by rw[key _ τ];exact G,by rw[key _ τ];exact H⟩
def Jk (p:Hd->Bool) (L:List Hd):Int:=if L.findIdx p<L.length then (L.findIdx p:Int) else -1
def Cf {k:Nat} (d:k<L.length) (h:p (L.getD k (0,0,0))=ό) (G: ∀j,j<k->p (L.getD j (0,0,0))=ύ):Jk p L=k:=by
 have e:L.findIdx p=k:=by
  rw[List.findIdx_eq d];rw[ϑ,ϖ d,ϥ] at h;refine⟨h,λj H=> ?_⟩;have:=G j H
  rwa [ϑ,ϖ τ,ϥ] at this
 unfold Jk;rw[e,ϐ d]
def PF (G: ∀j,j<L.length->p (L.getD j (0,0,0))=ύ):Jk p L= -1:=by
 have e:L.findIdx p=L.length:=by
  rw[List.findIdx_eq_length];intro x H;obtain⟨j,d,rfl⟩:=A4.1 H;have:=G j d
  rwa [ϑ,ϖ d,ϥ] at this
 unfold Jk;rw[e,ώ (Nat.lt_irrefl _)]
def Cg (p:Hd->Bool) (L:List Hd):decide (0<=Jk p L)=L.any p:=by
 unfold Jk;by_cases h:L.findIdx p<L.length
 ·rw[ϐ h,ϭ τ];exact(P8.2 ⟨L[L.findIdx p],ϛ _,List.findIdx_getElem⟩).symm
 ·rw[ώ h];have e:L.any p=ύ:=by
   rw[K2];intro x G d;exact h (List.findIdx_lt_length_of_exists ⟨x,G,d⟩)
  rw[e];rfl
def ZA (g:Nat) (lb:Array Value) (p:Hd->Bool) (L:List Hd) (w:World):Prop:=
 ∀(W:World) (x:Hd),x∈L->ql w W->Calls Tryz.prog g (#[.agg #[.int .i64 x.1,.int .i64 x.2.1,.int .i64 x.2.2]]++lb) W λe w'=>e= .returned (.bool (p x))/\ql W w'
def wJ (g:Nat) (af:Array Value) (p:Hd->Bool) (aa: ∀args w,(callFunc g args).run prog w= .ok (.enter g args) w) (L:List Hd) (v:Value) (base:Nat) (w:World) (row:zT w base v L) (ae:ZA g af p L w):
  Calls prog 231 #[v,.func (.func g) #[] af] w λe w'=>e= .returned (ι (Jk p L))/\ql w w':=by
 have ah:=κ row;have ag:=κ ae;obtain⟨aq,cap,rfl,an⟩:=row.shape;clear row ae
 go_enter func231,ntmps231
 go_wp2
 go_loopw [5,8] (λ_ Y wr=> ∃k:Nat,k<=L.length/\Y= ι k/\(∀j,j<k->p (L.getD j (0,0,0))=ύ)/\ql w wr) (λ_ Y _=>L.length-(intOf Y).toNat)
 case atStart=>exact⟨0,τ,rfl,λj ad=>ϩ ad (Nat.not_lt_zero _),ql.refl _⟩
 case round=>
  obtain⟨k,ap,rfl,ab,J⟩:=hrel;have I:=κ ab;have N:=κ J;clear ab;by_cases hlt:k<L.length
  ·have aj:(k:Int)<(L.length:Int):=by omega
   obtain⟨b,c,e,_,ao,ac⟩:=ah.o.cell k hlt;cases e;obtain⟨ai,c1,c2⟩:=ac wr J;have d:=ag.o wr (L.getD k (0,0,0)) (by rw[ϑ,ϖ hlt];exact ϛ hlt) J;have U:Hid (p (L.getD k (0,0,0))=ό->Jk p L=k):=κ λh=>Cf hlt h I.o
   have O:Hid (p (L.getD k (0,0,0))=ύ-> ∀j,j<k+1->p (L.getD j (0,0,0))=ύ):=κ λh j ad=>by
    by_cases e:j=k
    ·subst e;exact h
    ·exact I.o j τ
   clear ac J I;generalize L.getD k (0,0,0)=y at *;obtain⟨ak,al,am⟩:=y;simp only at ai c1 c2 d;cases hq:p (ak,al,am) with
   | true=>
    rw[hq] at d;have G:=κ (U.o hq);clear U O hq
    go_wp2_with (refine d.mono ?_;rintro e w' ⟨rfl,H⟩;have M:=κ H;clear H d aa)
    go_ret;exact⟨by rw[G.o];rfl,N.o.trans M.o⟩
   | false=>
    rw[hq] at d;have G:=κ (O.o hq);clear U O hq
    go_wp2_with (refine d.mono ?_;rintro e w' ⟨rfl,H⟩;have M:=κ H;clear H d aa)
    go_roundw
    case rel=>exact⟨k+1,τ,by go_num,G.o,N.o.trans M.o⟩
    case measure=>simp[intOf];omega
  ·obtain rfl:k=L.length:=by omega
   have G:=κ (PF I.o);have aj: ¬(L.length:Int)<(L.length:Int):=by omega
   go_wp2;go_ret;exact⟨by rw[G.o];rfl,N.o⟩
def xt (g:Nat) (d:Array Value) (p:Hd->Bool) (J: ∀args w,(callFunc g args).run prog w= .ok (.enter g args) w) (L:List Hd) (v:Value) (base:Nat) (w:World) (row:zT w base v L) (G:ZA g d p L w):
  Calls prog 173 #[v,.func (.func g) #[] d] w λe w'=>e= .returned (μ (L.any p))/\ql w w':=by
 have I:=κ row;have H:=κ G;obtain⟨O,cap,rfl,N⟩:=row.shape;rw[<-Cg];clear row G
 go_enter func173,ntmps173
 go_wp2_with (go_at_call 231;((with_reducible refine(wJ g d p J L _ base _ I.o H.o).mono ?_);rintro e w1 ⟨rfl,M⟩))
 go_ret;exact⟨rfl,M⟩
def xO (cur:List Value) (o:Nat) (vs:List Value):List Value:=cur.take o++vs++cur.drop (o+vs.length)
def ut {cur d:List Value} {o:Nat} (h:o+d.length<=cur.length):(xO cur o d).length=cur.length:=by
 unfold xO;rw[Ϗ,Ϗ,Ϡ,ϣ];omega
def jM {g e:Nat} {cur:Array Value} (h:w.heap[g]? =ϊ (.cells cur e (0,0))) (cs:Array Value):(w.setRow g cs).heap[g]? =ϊ (.cells cs e (0,0)):=setRow_heap w g cur cs e (0,0) h
def jt.setRow (w:World) (g:Nat) (cs:Array Value):jt (λk=>k=g) w (w.setRow g cs):=by
 refine⟨rfl,rfl,rfl,by simp[World.setRow],λb G d=> ?_⟩;unfold World.setRow;simp only;rw[F4,ώ (λe=>d e.symm)]
def yN (w:World) (t ac e:TypeId) (i:TypeInfo) (ab:P.underlying t=ϊ (.slice e)) (hi:P.info? e=ϊ i) (g o G J:Nat) (cur:Array Value) (U:w.heap[g]? =ϊ (.cells cur e (0,0)))
  (a:Addr) (d I:Nat) (cs:List Value) (Y:cs.length=Nat.min d G* i.size) (aa: ∀j v,cs[j]? =ϊ v->w.cell? (a.add j)=ϊ v) (O:o+cs.length<=cur.size) (M: ∀v∈cs,v.oneCell'=ό):
  (Builtin.copy_ #[t,t] ac #[δ (ϊ ⟨g,o,ϋ⟩) G J,δ (ϊ a) d I]).run P w= .ok (goInt (Nat.min d G)) (w.setRow g (xO cur.toList o cs).toArray):=by
 have N:=run_firstCells_some (P:=P) (w:=w) i.size (Nat.min d G) a d I cs Y aa;have H:=run_storeCells_at P g o e cs 0 cur w U (by simpa using O) M;simp only[G7] at H;unfold xO;simp[Builtin.copy_,run_underlying ab,Builtin.lenOf,sizeOf,typeInfo,hi,N,H]
def Zi (w:World) (t N e:TypeId) (z:Value) (J:P.underlying t=ϊ (.slice e)) (M:(zeroValue e).run P w= .ok z w) (g o n c:Nat) (O:0<n) (cur:Array Value) (I:w.heap[g]? =ϊ (.cells cur e (0,0)))
  (H:o+(Builtin.zeroCells z.cells n).toList.length<=cur.size) (G: ∀v∈(Builtin.zeroCells z.cells n).toList,v.oneCell'=ό):
  (Builtin.clear_ #[t] N #[δ (ϊ ⟨g,o,ϋ⟩) n c]).run P w= .ok (.tuple #[]) (w.setRow g (xO cur.toList o (Builtin.zeroCells z.cells n).toList).toArray):=by
 have d:=run_storeCells_at P g o e (Builtin.zeroCells z.cells n).toList 0 cur w I (by simpa using H) G;simp only[G7] at d;obtain⟨m,rfl⟩: ∃m,n=m+1:=⟨n-1,τ⟩;unfold xO;simp[Builtin.clear_,run_underlying J,M,d]
def Jo
  (G:o.guard=ϋ) (s x:Operand) (t t':TypeId) (H:o.op=Op.call {callee:=Callee.builtin Builtin.append,args:= #[s,x],argTypes:= #[t,t']})
  (v u:Value) (J:a.eval s=v) (N:a.eval x=u) (I:(Builtin.append_ #[t,t'] o.type #[v,u]).run P w= .ok v' w') (d:K (a.put o.dst v') w'):
  if Region.wanted o (yielded ops a.tmps)=ό then Oper.wp P o a w K Q else E:=by
 have M:Region.wanted o (yielded ops a.tmps)=ό:=by simp[Region.wanted,G]
 rw[ϐ M];unfold Oper.wp;simp[execOp,H,resolve,invoke,builtin,J,N,I,Result.andThen];exact d
def Gt (w:World):(zeroValue 338).run prog w= .ok (θ #[ι 0,ι 0,ι 0]) w:=by kernel_rfl
def KN:(Builtin.zeroCells (θ #[ι 0,ι 0,ι 0]).cells 1).toList=[ι 0,ι 0,ι 0]:=by kernel_rfl
def Vc (h:Hd) (T:List Hd) (v:Value) (base:Nat) (w:World) (row:zT w base v (h::T)):
  Calls prog 235 #[v,ι 0,ι 1] w λe w'=> ∃v',e= .returned v'/\zT w' base v' T/\jt (λk=>v.ownBlock=ϊ k) w w'/\v'.ownBlock=v.ownBlock:=by
 obtain⟨af,⟨_,Y⟩ | ⟨g,cap,cur,rfl,aq,J,O,aa,ab,U⟩⟩:=row
 ·simp at Y
 rw[ϙ] at af O U ⊢;obtain⟨aw,ai,au,al,av⟩:=info_parts (P:=prog) (e:=338) (z:= θ #[ι 0,ι 0,ι 0]) (size:=3) (bytes:=24) ξ;obtain⟨n,N⟩:=ν (T.length);rw[N] at af O U ⊢;have d:(hdC T).length=n* 3:=by rw[yu,N]
 have ah:cur.toList.length=cap* 3:=by simpa using ab
 obtain⟨A,ax,aj⟩: ∃A:Addr,(if cap=1 then ϊ (⟨g,0,ϋ⟩:Addr) else ϊ ⟨g,3,ϋ⟩)=ϊ A/\ ∀j u,(hdC T)[j]? =ϊ u->w.drew.cell? (A.add j)=ϊ u:=by
  by_cases h1:cap=1
  ·refine⟨⟨g,0,ϋ⟩,by simp[h1],λj u H=> ?_⟩;have Y:(hdC T).length=0:=by rw[d];omega
   rw[J2.1 Y] at H;simp at H
  ·refine⟨⟨g,3,ϋ⟩,by simp[h1],λj u H=> ?_⟩;have aB:j<n* 3:=by rw[<-d];exact(Ϛ.1 H).1
   rw[Addr.add_lit];show w.cell? ⟨g,3+j,ϋ⟩=ϊ u;rw[cell_of_row w g _ cur _ (0,0) J];have e:(hdC (h::T))[3+j]? =ϊ u:=by
    rw[gP,Ϻ (by simp[hd1])]
    simpa [hd1] using H
   rw[<-U,B3,ϐ τ] at e
   simpa using e
 have ad: ∀G,(Builtin.append_ #[230,230] G #[δ (ϊ ⟨g,0,ϋ⟩) 0 cap,δ (ϊ A) n (cap-1)]).run prog w.drew= .ok (δ (ϊ ⟨g,0,ϋ⟩) n cap) (w.drew.setRow g (hdC T++cur.toList.drop (n* 3)).toArray):=by
  intro G;have:=run_append_room (P:=prog) (w:=w.drew) 230 G 338 aw underlying230 ai g 0 cap cur J A n (cap-1) (hdC T) (by rw[al];exact d) aj (YE T) τ (by rw[d];have:cur.size=cap* 3:=ab;omega);rw[D8,M6,D8,T6,I3,d] at this;exact this
 obtain⟨W1,I⟩: ∃W1,W1=w.drew.setRow g (hdC T++cur.toList.drop (n* 3)).toArray:=⟨_,rfl⟩;have ac:W1.heap[g]? =ϊ (.cells (hdC T++cur.toList.drop (n* 3)).toArray 338 (0,0)):=by rw[I];exact jM (w:=w.drew) J _
 have ag:jt (λk=>k=g) w W1:=by rw[I];exact(show jt (λk=>k=g) w w.drew from jt.of_more (ql.drewN w 1)).trans (jt.setRow w.drew g _)
 have M:(hdC T++cur.toList.drop (n* 3)).length=cap* 3:=by rw[Ϗ,ϣ,d,ah];omega
 have ae: ∀G c,(Builtin.clear_ #[230] G #[δ (ϊ ⟨g,n* 3,ϋ⟩) 1 c]).run prog W1= .ok (.tuple #[]) (W1.setRow g (xO (hdC T++cur.toList.drop (n* 3)) (n* 3) [ι 0,ι 0,ι 0]).toArray):=by
  intro G c;have:=Zi (P:=prog) W1 230 G 338 (θ #[ι 0,ι 0,ι 0]) underlying230 (Gt W1) g (n* 3) 1 c ζ _ ac (by rw[KN];show n* 3+3<=_;rw[G5,M];omega) (by rw[KN];intro v ak;simp at ak;rw[ak];rfl);rw[KN] at this
  simpa using this
 have an:Hid (zT (W1.setRow g (xO (hdC T++cur.toList.drop (n* 3)) (n* 3) [ι 0,ι 0,ι 0]).toArray) base (δ (ϊ ⟨g,0,ϋ⟩) n cap) T):=κ (by
  refine⟨by rw[yu],ϔ ⟨g,cap,_,by rw[N],aq,jM ac _,τ,aa, ?_, ?_⟩⟩
  ·rw[G5,ut (by rw[M];show n* 3+3<=_;omega),M]
  ·unfold xO;rw[N];simp only[ϧ]
   rw[G2 (by rw[Ϡ,Ϗ,d];omega),T7,Nat.min_self,G2 (by rw[d];exact ϕ _),E9 (by rw[d];exact ϕ _)])
 have am:Hid (jt (λk=>k=g) w (W1.setRow g (xO (hdC T++cur.toList.drop (n* 3)) (n* 3) [ι 0,ι 0,ι 0]).toArray)):=κ (ag.trans (jt.setRow W1 g _));rw[<-I] at ad;have ao:=κ ad;have ap:=κ ae;have ay:1<=cap:=by omega
 have aD:n+1<=cap:=O;have az:(cap:Int)<=9223372036854775807:=by unfold maxLen at aa;omega
 generalize W1.setRow g (xO (hdC T++cur.toList.drop (n* 3)) (n* 3) [ι 0,ι 0,ι 0]).toArray=W2 at *;clear ad ae aj af U ab ah d J ac ag M I aa ai au al av O;have mixed:prog.follows Departure.mixedOrders=ό:=by kernel_rfl
 have aC:(1:Int)<=(n:Int)+1:=by omega
 go_enter func235,ntmps235
 go_wp2_with fail
 go_region_law_o (refine Jo rfl (.tmp 22) (.tmp 25) 230 230 rfl _ _ (by simp[Act.eval,Act.put]) (by simp[Act.eval,Act.put]) (ao.o _) ?_)
 have ae:=ap.o;have aA: ¬cap=n:=by omega
 go_wp2;go_ret;exact⟨_,rfl,an.o,am.o.mono λk ar=>by subst ar;rfl,rfl⟩
section
open Go.RowKit Go.Lib
def gO (A B d:List Value):xO (A++B) A.length d=A++(d++B.drop d.length):=by
 unfold xO;rw[S5,ϧ]
 congr 2
 rw[<-T1,T2]
def Et {A Z D X V:List Value} (G:Z.length=V.length):xO (xO (A++(Z++D)) (A.length+Z.length) X) A.length V=A++(V++(X++D.drop X.length)):=by
 have d:xO (A++(Z++D)) (A.length+Z.length) X=A++(Z++(X++D.drop X.length)):=by
  have:=gO (A++Z) D X;rw[Ϗ] at this
  simpa only[ϧ] using this
 rw[d,gO,<-G,T2]
def Bh {A Z D X V:List Value} (d:Z.length=V.length):xO (xO (A++(Z++D)) A.length V) (A.length+V.length) X=A++(V++(X++D.drop X.length)):=by
 rw[gO,<-d,T2];have:=gO (A++V) D X;rw[Ϗ] at this;rw[d]
 simpa only[ϧ] using this
section
variable {P:Program}
def uH
  (M:o.guard=ϋ) (d x:Operand) (G H:TypeId) (N:o.op=Op.call {callee:=Callee.builtin Builtin.copy,args:= #[d,x],argTypes:= #[G,H]})
  (v u:Value) (J:a.eval d=v) (Y:a.eval x=u) (O:(Builtin.copy_ #[G,H] o.type #[v,u]).run P w= .ok v' w') (I:K (a.put o.dst v') w'):
  if Region.wanted o (yielded ops a.tmps)=ό then Oper.wp P o a w K Q else E:=by
 have U:Region.wanted o (yielded ops a.tmps)=ό:=by simp[Region.wanted,M]
 rw[ϐ U];unfold Oper.wp;simp[execOp,N,resolve,invoke,builtin,J,Y,O,Result.andThen];exact I
end
def gE (h:Hd):(hd1 h).length=3:=rfl
structure Vh (L:List Hd) (h:Hd) (v:Value) (base:Nat) (w:World) (vb:Nat):Prop where
 row:zT w base v L
 base:base<=w.heap.size
 len:L.length<=1000
 one:w.heap[vb]? =ϊ (.cells #[.int .i64 h.1,.int .i64 h.2.1,.int .i64 h.2.2] 338 (0,0))
 ne:v.ownBlock≠ϊ vb
def JS (L:List Hd) (i:Nat) (h:Hd) (v:Value) (base:Nat) (w:World) (e:Ending) (w':World):Prop:=
 ∃v',e= .returned v'/\zT w' base v' (L.take i++h::L.drop i)/\jt (λk=>v.ownBlock=ϊ k) w w'/\(v'.ownBlock=v.ownBlock∨v'.ownBlock=ϊ w.heap.size)
def Qw {h:Hd} {vb:Nat} (d:w.heap[vb]? =ϊ (.cells #[ι h.1,ι h.2.1,ι h.2.2] 338 (0,0))): ∀j u,(hd1 h)[j]? =ϊ u->w.cell? ((⟨vb,0,ϋ⟩:Addr).add j)=ϊ u:=by
 intro j u G;rw[Addr.add_lit,D8,cell_of_row w vb j _ _ (0,0) d]
 simpa [hd1] using G
def YF (h:Hd): ∀u∈hd1 h,u.oneCell'=ό:=by
 intro u d;simp[hd1] at d;rcases d with rfl | rfl | rfl<;>rfl
def Wj (L:List Hd) (h:Hd) (v:Value) (base:Nat) (w:World) (vb:Nat) (ok:Vh L h v base w vb):
  Calls prog 249 #[v,ι L.length,δ (ϊ ⟨vb,0,ϋ⟩) 1 1] w (JS L L.length h v base w):=by
 obtain⟨row,ai,au,H,ab⟩:=ok;obtain⟨ap,G,N,O,U⟩:=info_parts (P:=prog) (e:=338) (z:= θ #[ι 0,ι 0,ι 0]) (size:=3) (bytes:=24) ξ;obtain⟨v',w',M,J,d,_,I⟩: ∃v' w',(∀ac,(Builtin.append_ #[230,230] ac #[v,δ (ϊ ⟨vb,0,ϋ⟩) 1 1]).run prog w= .ok v' w')/\w'.ownsRow base 338 3 v' (L.length+1) (hdC L++hd1 h)/\w.grownBy w' v.ownBlock/\True/\(v'.ownBlock=v.ownBlock∨v'.ownBlock=ϊ w.heap.size):=by
  obtain⟨v',w',ae,af,ag,_,ah⟩:=run_append_own_at (P:=prog) (w:=w) base 230 0 338 ap (θ #[ι 0,ι 0,ι 0]) 3 24 underlying230 G N O U rfl ζ v L.length (hdC L) row ⟨vb,0,ϋ⟩ 1 1 (hd1 h) rfl (Qw H) (YF h) (by unfold maxLen;omega) τ ai;exact⟨v',w',λac=>ae,af,ag,trivial,ah⟩
 have Y:Hid (JS L L.length h v base w (.returned v') w'):=κ ⟨v',rfl,by
  unfold zT;rw[ϱ,List.drop_length,uT,Ϗ]
  exact J,⟨d.os,d.tape,d.output,d.size,λk al an=>d.block k al (λe=>an e.symm)⟩,I⟩
 have aa:=κ M;rcases row with ⟨_,⟨rfl,ad⟩ | ⟨g,cap,cur,rfl,aq,ak,am,ar,aj,ao⟩⟩
 ·rw[ad] at *;clear M J d I H G N O U ab
  go_enter func249,ntmps249
  go_wp2_with (at_builtin;refine Lib.wpList_append_run _ rfl _ _ _ _ rfl _ _ rfl rfl _ _ (aa.o _) ?_)
  go_ret;exact Y.o
 ·have av:L.length<=cap:=am;clear M J d I H G N O U ab ak aj ao
  go_enter func249,ntmps249
  go_wp2_with (at_builtin;refine Lib.wpList_append_run _ rfl _ _ _ _ rfl _ _ rfl rfl _ _ (aa.o _) ?_)
  all_goals (go_ret;exact Y.o)
end
section
open Go.RowKit Go.Lib
def Uq {C:List Value} {i:Nat} (hi:i<L.length) (H:C.take (L.length* 3)=hdC L) (I:L.length* 3<=C.length):
  ∃Z R,C=hdC (L.take i)++(Z++R)/\Z.length=3/\(hdC (L.take i)).length=i* 3:=by
 have d:(hdC (L.take i)).length=i* 3:=by rw[yu,Ϡ];congr 1;omega
 have e:C.take (i* 3)=hdC (L.take i):=by
  have G:C.take (i* 3)=(C.take (L.length* 3)).take (i* 3):=by
   rw[T7];congr 1;have:i* 3<=L.length* 3:=A7 3 τ;omega
  rw[G,H]
  conv=>lhs;rw[<-A9 i L,uT]
  rw[<-d,S5]
 refine⟨(C.drop (i* 3)).take 3,(C.drop (i* 3)).drop 3, ?_, ?_,d⟩
 ·rw[A9,<-e,A9]
 ·have:i* 3+3<=L.length* 3:=by
   have:=A7 3 (show i+1<=L.length from hi);omega
  rw[Ϡ,ϣ];omega
def VM {i:Nat} {h:Hd} {D:List Value} (hi:i<L.length):
  (hdC (L.take i)++(hd1 h++(hdC (L.drop i)++D))).take ((L.length+1)* 3)=hdC (L.take i++h::L.drop i):=by
 have e:hdC (L.take i++h::L.drop i)=hdC (L.take i)++(hd1 h++hdC (L.drop i)):=by rw[uT,gP]
 have d:(hdC (L.take i++h::L.drop i)).length=(L.length+1)* 3:=by
  rw[yu,Ϗ,ϙ,Ϡ,ϣ];congr 1;omega
 rw[<-d];have:hdC (L.take i)++(hd1 h++(hdC (L.drop i)++D))=hdC (L.take i++h::L.drop i)++D:=by rw[e];simp only[ϧ]
 rw[this,S5]
def YU (w:World) (g vb cap o k H G:Nat) (cur I:Array Value) (M:w.heap[g]? =ϊ (.cells cur 338 (0,0))) (J:cur.size≠0) (d:w.heap[vb]? =ϊ (.cells I 338 (0,0))) (N:vb≠g):
  (callFunc 283 #[δ (ϊ ⟨vb,0,ϋ⟩) 1 1,δ (ϊ ⟨g,o,ϋ⟩) H G]).run prog w= .ok (.value (μ ύ)) w:=by
 rw[run_callFunc_extern func283 ξ ξ ξ (e:=Extern.SlicesOverlaps.overlaps #[230,230] #[4]) ξ,
  Lib.run_overlaps_apart w 230 4 338 underlying230 3 (λw=>by kernel_rfl) ⟨vb,0,ϋ⟩ ⟨g,o,ϋ⟩ 1 1 H G N 338 338 I.size cur.size (by simp[World.shape?,d]) (by simp[World.shape?,M]) J (yw d 0) (yw d _)]
 rfl
def Vb (L:List Hd) (i:Nat) (hi:i<L.length) (h:Hd) (base:Nat) (w:World) (vb g cap:Nat) (ok:Vh L h (δ (ϊ ⟨g,0,ϋ⟩) L.length cap) base w vb) (av:L.length+1<=cap):
  Calls prog 249 #[δ (ϊ ⟨g,0,ϋ⟩) L.length cap,ι i,δ (ϊ ⟨vb,0,ϋ⟩) 1 1] w (JS L i h (δ (ϊ ⟨g,0,ϋ⟩) L.length cap) base w):=by
 obtain⟨row,aL,an,af,aq⟩:=ok;obtain⟨aF,⟨aB,_⟩ | ⟨g',aJ,cur,e,aD,I,ap,ab,am,ai⟩⟩:=row
 ·cases aB
 cases e;have ar:vb≠g:=λe=>aq (by rw[e];rfl)
 obtain⟨ax,ad,aG,aj,aH⟩:=info_parts (P:=prog) (e:=338) (z:= θ #[ι 0,ι 0,ι 0]) (size:=3) (bytes:=24) ξ;have aa:cur.toList.length=cap* 3:=by simpa using am
 obtain⟨Z,R,al,U,O⟩:=Uq hi ai τ;have H:(hdC (L.drop i)).length=(L.length-i)* 3:=by rw[yu,ϣ]
 obtain⟨n,ae⟩:=ν (L.length);have aC:=λ(o aI aA:Nat)=>YU w g vb cap o 0 aI aA cur _ I τ af ar
 have ag: ∀G d sc,(Builtin.copy_ #[230,230] G #[δ (ϊ ⟨g,(i+1)* 3,ϋ⟩) (n-i) d,δ (ϊ ⟨g,i* 3,ϋ⟩) (n+1-i) sc]).run prog w.drew= .ok (ι ((n-i:Nat):Int)) (w.drew.setRow g (xO cur.toList ((i+1)* 3) (hdC (L.drop i))).toArray):=by
  intro G d sc;have J:Nat.min (n+1-i) (n-i)=n-i:=by simp only[V6];split<;>omega
  have:=yN (P:=prog) w.drew 230 G 338 ax underlying230 ad g ((i+1)* 3) (n-i) d cur I ⟨g,i* 3,ϋ⟩ (n+1-i) sc (hdC (L.drop i)) (by rw[J,aj,H,ae]) (by
   intro j u aw;rw[Addr.add_lit];show w.cell? ⟨g,i* 3+j,ϋ⟩=ϊ u;rw[cell_of_row w g _ cur _ (0,0) I];have aN:j<(L.length-i)* 3:=by rw[<-H];exact(Ϛ.1 aw).1
   have e:(hdC L)[i* 3+j]? =ϊ u:=by
    conv=>lhs;rw[<-A9 i L,uT]
    rw[Ϻ τ,O,P9];exact aw
   rw[<-ai,B3,ϐ τ] at e
   simpa using e) (by rw[H];omega) (YE _)
  rw[J] at this;rw[this];rfl
 obtain⟨W1,M⟩: ∃W1,W1=w.drew.setRow g (xO cur.toList ((i+1)* 3) (hdC (L.drop i))).toArray:=⟨_,rfl⟩;have ac:W1.heap[g]? =ϊ (.cells (xO cur.toList ((i+1)* 3) (hdC (L.drop i))).toArray 338 (0,0)):=by rw[M];exact jM (w:=w.drew) I _
 have Y:jt (λk=>k=g) w W1:=by rw[M];exact(show jt (λk=>k=g) w w.drew from jt.of_more (ql.drewN w 1)).trans (jt.setRow w.drew g _)
 have N:(xO cur.toList ((i+1)* 3) (hdC (L.drop i))).length=cap* 3:=by rw[ut (by rw[H,aa];omega),aa]
 have au:=Y.blk af ar;have ah: ∀G d,(Builtin.copy_ #[230,230] G #[δ (ϊ ⟨g,i* 3,ϋ⟩) (n+1-i) d,δ (ϊ ⟨vb,0,ϋ⟩) 1 1]).run prog W1= .ok (ι 1) (W1.setRow g (xO (xO cur.toList ((i+1)* 3) (hdC (L.drop i))) (i* 3) (hd1 h)).toArray):=by
  intro G d;have J:Nat.min 1 (n+1-i)=1:=by simp only[V6];split<;>omega
  have:=yN (P:=prog) W1 230 G 338 ax underlying230 ad g (i* 3) (n+1-i) d _ ac ⟨vb,0,ϋ⟩ 1 1 (hd1 h) (by rw[J,aj];rfl) (Qw au) (by rw[G5,N,gE];omega) (YF h);rw[J] at this;rw[this];rfl
 have ak:Hid (JS L i h (δ (ϊ ⟨g,0,ϋ⟩) L.length cap) base w (.returned (δ (ϊ ⟨g,0,ϋ⟩) (n+1) cap)) (W1.setRow g (xO (xO cur.toList ((i+1)* 3) (hdC (L.drop i))) (i* 3) (hd1 h)).toArray)):=κ (by
  have ao:(L.take i++h::L.drop i).length=n+1:=by rw[Ϗ,ϙ,Ϡ,ϣ];omega
  refine⟨_,rfl,⟨by rw[yu],ϔ ⟨g,cap,_,by rw[ao],aD,jM ac _,τ,ab, ?_, ?_⟩⟩,(Y.trans (jt.setRow W1 g _)).mono λk aE=>by subst aE;rfl,ϒ rfl⟩
  ·rw[G5,ut (by rw[N,gE];omega),N]
  ·have:=Et (A:=hdC (L.take i)) (Z:=Z) (D:=R) (X:=hdC (L.drop i)) (V:=hd1 h) (by rw[U];rfl);rw[U,O,<-al,show i* 3+3=(i+1)* 3 by omega] at this;rw[ao,<-ae];simp only[this]
   exact VM hi)
 rw[<-M] at ag;generalize W1.setRow g (xO (xO cur.toList ((i+1)* 3) (hdC (L.drop i))) (i* 3) (hd1 h)).toArray=W2 at *;rw[ae] at av an ap ak ⊢;have ay:=κ ag;have az:=κ ah;have mixed:prog.follows Departure.mixedOrders=ό:=by kernel_rfl
 have aP:IntKind.i64.wrap ((i:Int)+1)=(i:Int)+1:=by rw[IntKind.wrap_i64];omega
 have aK:(0:Int)<=(i:Int)+1:=by omega
 have aO:((i:Int)+1).toNat=i+1:=by omega
 have aQ:(i:Int)<=(n:Int):=by omega
 have aR: ¬(cap:Int)<(n:Int)+1:=by omega
 have aS:(n:Int)<=1000:=by omega
 have aT:(i:Int)+1<=(n:Int)+1:=by omega
 have aU: ¬cap=i:=by omega
 have aV: ¬cap=i+1:=by omega
 have aW:(i:Int)<=(n:Int)+1:=by omega
 have aM:(cap:Int)<=9223372036854775807:=by unfold maxLen at ab;omega
 clear ag ah aa H ac Y N au af I am ai aF ad aG aj aH al U O M aq av ap an ab
 go_enter func249,ntmps249
 go_wp2_with (simp only[aC])
 go_region_law_o (refine uH rfl (.tmp 73) (.tmp 76) 230 230 rfl _ _ (by simp[Act.eval,Act.put]) (by simp[Act.eval,Act.put]) (ay.o _ (cap-(i+1)) (cap-i)) ?_)
 have ah:=az.o;go_wp2;go_ret;exact ak.o
end
section
open Go.RowKit Go.Lib
def Rw (L:List Hd) (i:Nat) (hi:i<L.length) (h:Hd) (base:Nat) (w:World) (vb g cap:Nat) (ok:Vh L h (δ (ϊ ⟨g,0,ϋ⟩) L.length cap) base w vb) (bj:cap<L.length+1):
  Calls prog 249 #[δ (ϊ ⟨g,0,ϋ⟩) L.length cap,ι i,δ (ϊ ⟨vb,0,ϋ⟩) 1 1] w (JS L i h (δ (ϊ ⟨g,0,ϋ⟩) L.length cap) base w):=by
 obtain⟨row,bi,aY,aK,bb⟩:=ok;obtain⟨bc,⟨aS,_⟩ | ⟨g',bd,cur,e,bg,au,ba,aU,aV,aN⟩⟩:=row
 ·cases aS
 cases e;obtain⟨aj,ag,aO,aa,aC⟩:=info_parts (P:=prog) (e:=338) (z:= θ #[ι 0,ι 0,ι 0]) (size:=3) (bytes:=24) ξ;obtain⟨n,aA⟩:=ν (L.length);have U:(hdC (L.take i)).length=i* 3:=by rw[yu,Ϡ];congr 1;omega
 have af:(hdC (L.drop i)).length=(n-i)* 3:=by rw[yu,ϣ,aA]
 have ar: ∀j u,(hdC L)[j]? =ϊ u->w.cell? ⟨g,j,ϋ⟩=ϊ u:=by
  intro j u J;rw[cell_of_row w g _ cur _ (0,0) au];have aW:j<L.length* 3:=by rw[<-yu];exact(Ϛ.1 J).1
  rw[<-aN,B3,ϐ aW] at J
  simpa using J
 have holds: ∀j u,(hdC (L.take i))[j]? =ϊ u->w.cell? ((⟨g,0,ϋ⟩:Addr).add j)=ϊ u:=by
  intro j u J;rw[Addr.add_lit,D8];refine ar j u ?_
  conv=>lhs;rw[<-A9 i L,uT]
  rw[ϻ (Ϛ.1 J).1];exact J
 have aM: ∀j u,(hdC (L.drop i))[j]? =ϊ u->w.cell? ((⟨g,i* 3,ϋ⟩:Addr).add j)=ϊ u:=by
  intro j u J;rw[Addr.add_lit];refine ar _ u ?_
  conv=>lhs;rw[<-A9 i L,uT]
  rw[Ϻ τ,U,P9];exact J
 have aJ:(Builtin.firstCells aj.size i (δ (ϊ ⟨g,0,ϋ⟩) i cap)).run prog w.drew= .ok (hdC (L.take i)).toArray w.drew:=by
  rw[aa];exact run_firstCells_some (w:=w.drew) 3 i ⟨g,0,ϋ⟩ i cap (hdC (L.take i)) U holds
 have ax:i+(n+1-i)=n+1:=by omega
 have aH:(n:Int)+1-(i:Int)=((n+1-i:Nat):Int):=by omega
 obtain⟨d,ab⟩: ∃d,d=grownCap w (n+1) cap 338:=⟨_,rfl⟩;obtain⟨H,ap⟩: ∃H:Array Value,H=(hdC (L.take i)).toArray++Builtin.zeroCells (θ #[ι 0,ι 0,ι 0]).cells (n+1-i)++Builtin.zeroCells (θ #[ι 0,ι 0,ι 0]).cells (d-(n+1)):=⟨_,rfl⟩;have aB: ∀I,(Builtin.append_ #[230,3] I #[δ (ϊ ⟨g,0,ϋ⟩) i cap,ι ((n:Int)+1-(i:Int))]).run prog w= .ok (δ (ϊ ⟨w.heap.size,0,ϋ⟩) (n+1) d) (w.drew.alloc (.cells H 338)):=λI=>by
  have h:=Lib.run_append_grow_zeros (P:=prog) w 230 3 I 338 aj _ .i64 .i64 underlying230 underlying3 ag aO (ϊ ⟨g,0,ϋ⟩) i cap (hdC (L.take i)) aJ (n+1-i) τ (by rw[aa];decide) τ τ (by rw[aC];omega) (by rw[aC,ax];exact growslice_fits τ τ);rw[ax,<-ab,<-ap] at h;rw[aH];exact h
 have bf:n+1<=d:=by rw[ab];exact grownCap_ge w _ _ _
 have ak:d<=maxLen:=by rw[ab];exact grownCap_le_maxLen w (n+1) cap 338 (by unfold maxLen;omega)
 obtain⟨O,aq⟩:=ν ((Builtin.zeroCells (θ #[ι 0,ι 0,ι 0]).cells (n+1-i)).toList);have aF:O.length=(n+1-i)* 3:=by rw[<-aq,K8,size_zeroCells];rfl
 obtain⟨N,an⟩:=ν ((Builtin.zeroCells (θ #[ι 0,ι 0,ι 0]).cells (d-(n+1))).toList);have aE:N.length=(d-(n+1))* 3:=by rw[<-an,K8,size_zeroCells];rfl
 have ao:H.toList=hdC (L.take i)++(O++N):=by
  rw[ap,U1,U1,aq,an,ϧ]
 obtain⟨Z,D,aG,aT⟩: ∃Z D,O++N=Z++D/\Z.length=3:=⟨(O++N).take 3,(O++N).drop 3,(A9 3 _).symm,by rw[Ϡ,Ϗ];omega⟩;have ac:H.toList.length=d* 3:=by rw[ao,Ϗ,Ϗ,U,aF,aE];omega
 obtain⟨G,am⟩:=ν (w.heap.size);obtain⟨W1,ad⟩: ∃W1,W1=w.drew.alloc (.cells H 338):=⟨_,rfl⟩;have av:W1.heap[G]? =ϊ (.cells H 338 (0,0)):=by rw[ad];exact qC (w:=w.drew) am.symm
 have ay:ql w W1:=by rw[ad];exact(ql.drewN w 1).al _
 have ai: ∀I M,(Builtin.copy_ #[230,230] I #[δ (ϊ ⟨G,i* 3,ϋ⟩) (n+1-i) M,δ (ϊ ⟨vb,0,ϋ⟩) 1 1]).run prog W1= .ok (ι 1) (W1.setRow G (xO H.toList (i* 3) (hd1 h)).toArray):=by
  intro I M;have Y:Nat.min 1 (n+1-i)=1:=by simp only[V6];split<;>omega
  have:=yN (P:=prog) W1 230 I 338 aj underlying230 ag G (i* 3) (n+1-i) M H av ⟨vb,0,ϋ⟩ 1 1 (hd1 h) (by rw[Y,aa];rfl) (Qw (qq ay aK)) (by rw[gE,<-K8,ac];omega) (YF h);rw[Y] at this;rw[this];rfl
 obtain⟨W2,ae⟩: ∃W2,W2=W1.setRow G (xO H.toList (i* 3) (hd1 h)).toArray:=⟨_,rfl⟩;have aw:W2.heap[G]? =ϊ (.cells (xO H.toList (i* 3) (hd1 h)).toArray 338 (0,0)):=by rw[ae];exact jM av _
 have az:ql w W2:=by rw[ae];exact(jt.setRow W1 G _).to_more ay (λk aX=>by omega)
 have ah:(xO H.toList (i* 3) (hd1 h)).length=d* 3:=by rw[ut (by rw[gE,ac];omega),ac]
 have aL: ∀I M sc,(Builtin.copy_ #[230,230] I #[δ (ϊ ⟨G,(i+1)* 3,ϋ⟩) (n-i) M,δ (ϊ ⟨g,i* 3,ϋ⟩) (n-i) sc]).run prog W2.drew= .ok (ι ((n-i:Nat):Int)) (W2.drew.setRow G (xO (xO H.toList (i* 3) (hd1 h)) ((i+1)* 3) (hdC (L.drop i))).toArray):=by
  intro I M sc;have Y:Nat.min (n-i) (n-i)=n-i:=Nat.min_self _
  have:=yN (P:=prog) W2.drew 230 I 338 aj underlying230 ag G ((i+1)* 3) (n-i) M _ aw ⟨g,i* 3,ϋ⟩ (n-i) sc (hdC (L.drop i)) (by rw[Y,aa,af]) (by
   intro j u J;have:=aM j u J;rw[Addr.add_lit] at this ⊢;show W2.cell? _=_;rw[az.cells g _ (lt_of_block au)]
   exact this) (by rw[G5,ah,af];omega) (YE _)
  rw[Y] at this;rw[this];rfl
 have aD:Hid (JS L i h (δ (ϊ ⟨g,0,ϋ⟩) L.length cap) base w (.returned (δ (ϊ ⟨G,0,ϋ⟩) (n+1) d)) (W2.drew.setRow G (xO (xO H.toList (i* 3) (hd1 h)) ((i+1)* 3) (hdC (L.drop i))).toArray)):=κ (by
  have aI:(L.take i++h::L.drop i).length=n+1:=by rw[Ϗ,ϙ,Ϡ,ϣ];omega
  have aZ:ql w (W2.drew.setRow G (xO (xO H.toList (i* 3) (hd1 h)) ((i+1)* 3) (hdC (L.drop i))).toArray):=(jt.setRow W2.drew G _).to_more (az.trans (ql.drewN W2 1)) (λk aX=>by omega);refine⟨_,rfl,⟨by rw[yu],ϔ ⟨G,d,_,by rw[aI],τ,jM (w:=W2.drew) aw _,τ,ak, ?_, ?_⟩⟩,jt.of_more aZ,ϔ (by rw[am];rfl)⟩
  ·rw[G5,ut (by rw[ah,af];omega),ah]
  ·have:=Bh (A:=hdC (L.take i)) (Z:=Z) (D:=D) (X:=hdC (L.drop i)) (V:=hd1 h) (by rw[aT];rfl);rw[gE,U,<-aG,<-ao,show i* 3+3=(i+1)* 3 by omega] at this;rw[aI,<-aA];simp only[this]
   exact VM hi)
 rw[am,<-ad] at aB;rw[<-ae] at ai;generalize W2.drew.setRow G (xO (xO H.toList (i* 3) (hd1 h)) ((i+1)* 3) (hdC (L.drop i))).toArray=W3 at *;rw[aA] at aD ⊢;have aR:=κ aB;have aP:=κ ai;have aQ:=κ aL;have mixed:prog.follows Departure.mixedOrders=ό:=by kernel_rfl
 have bl:IntKind.i64.wrap ((i:Int)+1)=(i:Int)+1:=by rw[IntKind.wrap_i64];omega
 have bh:(0:Int)<=(i:Int)+1:=by omega
 have bk:((i:Int)+1).toNat=i+1:=by omega
 have bn:(i:Int)<=(n:Int):=by omega
 have bo:(cap:Int)<(n:Int)+1:=by omega
 have bp:(n:Int)<=1000:=by omega
 have bq:(i:Int)+1<=(n:Int)+1:=by omega
 have br: ¬cap=i:=by omega
 have bs: ¬d=i:=by omega
 have bt: ¬d=i+1:=by omega
 have bu:(i:Int)<=(n:Int)+1:=by omega
 have bm:(i:Int)<=(cap:Int):=by omega
 have be:(d:Int)<=9223372036854775807:=by unfold maxLen at ak;omega
 clear aB ai aL af av aw ay az ah aK au aV aN bc ag aO aa aC aG U ad ae bb ba aY aU ar holds aM aJ ab ap ao ac aq an aF aE aH ax ak
 go_enter func249,ntmps249
 go_wp2_with (at_builtin;refine Lib.wpList_append_run _ rfl _ _ _ _ rfl _ _ rfl rfl _ _ (aR.o _) ?_;have ai:=aP.o)
 go_region_law_o (refine uH rfl (.tmp 50) (.tmp 53) 230 230 rfl _ _ (by simp[Act.eval,Act.put]) (by simp[Act.eval,Act.put]) (aQ.o _ (d-(i+1)) (cap-i)) ?_)
 go_wp2;go_ret;exact aD.o
end
section
open Go.RowKit Go.Lib
def Wk (L:List Hd) (i:Nat) (hi:i<=L.length) (h:Hd) (v:Value) (base:Nat) (w:World) (vb:Nat) (d:Vh L h v base w vb):
  Calls prog 249 #[v,ι i,δ (ϊ ⟨vb,0,ϋ⟩) 1 1] w (JS L i h v base w):=by
 by_cases e:i=L.length
 ·subst e;exact Wj L h v base w vb d
 ·rcases d.row.2 with ⟨_,G⟩ | ⟨g,cap,_,rfl,_⟩
  ·omega
  ·by_cases hc:L.length+1<=cap
   ·exact Vb L i τ h base w vb g cap d hc
   ·exact Rw L i τ h base w vb g cap d τ
structure Jb where
 room:Int
 wait:Int
 holds:List Hd
 begun:Bool
 hi:Int
 bits:Int
def yc (b:Jb) (v:Value):Array Value:= #[.int .i64 b.room,.int .i64 b.wait,v,.bool b.begun,.int .i64 b.hi,.int .u64 b.bits]
structure xZ (w:World) (R:Nat) (v:Value) (b:Jb):Prop where
 blk:w.heap[R]? =ϊ (.cells (yc b v) 235 (0,0))
 row:zT w (R+1) v b.holds
def xZ.on {b:Jb} (h:xZ w R v b) (m:ql w w'):xZ w' R v b:=⟨qq m h.blk,h.row.more m⟩
def xZ.cells {b:Jb} (h:xZ w R v b): ∀x:qt w,x.w'.cell? ⟨R,0,ϋ⟩=ϊ (ι b.room)/\x.w'.cell? ⟨R,1,ϋ⟩=ϊ (ι b.wait)/\x.w'.cell? ⟨R,2,ϋ⟩=ϊ v/\x.w'.cell? ⟨R,3,ϋ⟩=ϊ (μ b.begun)/\x.w'.cell? ⟨R,4,ϋ⟩=ϊ (ι b.hi)/\x.w'.cell? ⟨R,5,ϋ⟩=ϊ (ψ b.bits):=λx=>
 have k:=qq x.h h.blk
 ⟨qm k 0 rfl,qm k 1 rfl,qm k 2 rfl,qm k 3 rfl,qm k 4 rfl,qm k 5 rfl⟩
abbrev xz (n:Int):Prop:=0<=n/\n<=1152921504606846976
structure JOK (b:Jb):Prop where
 room:1<=b.room/\b.room<=8
 wait:0<=b.wait/\b.wait<=1000
 fits:(b.holds.length:Int)<=b.room
 nums: ∀h∈b.holds,xz h.1/\xz h.2.1
 rise:b.holds.Pairwise λa c=>a.1<c.1
 hi:xz b.hi
 bits:U64 b.bits
 over:b.begun=ό-> ∀h∈b.holds,b.hi<h.1
def Dp (n:Int) (B:Nat) (x:Hd) (w:World) (d:w.heap[B]? =ϊ (.cells #[ι n] 2 (0,0))):
  Calls prog 246 #[θ #[ι x.1,ι x.2.1,ι x.2.2],γ B] w λe w'=>e= .returned (μ (x.1==n))/\ql w w':=by
 obtain⟨G,H,I⟩:=x;have J:(w.alloc (.cells #[ι G,ι H,ι I] 338)).cell? ⟨B,0,ϋ⟩=ϊ (ι n):=qm (qs d _) 0 rfl;clear d
 go_enter func246,ntmps246
 go_wp2;go_ret;exact⟨rfl,ql.alloc _ _⟩
def Wp (n:Int) (B:Nat) (x:Hd) (w:World) (d:w.heap[B]? =ϊ (.cells #[ι n] 2 (0,0))):
  Calls prog 247 #[θ #[ι x.1,ι x.2.1,ι x.2.2],γ B] w λe w'=>e= .returned (μ (decide (n<x.1)))/\ql w w':=by
 obtain⟨G,H,I⟩:=x;have J:(w.alloc (.cells #[ι G,ι H,ι I] 338)).cell? ⟨B,0,ϋ⟩=ϊ (ι n):=qm (qs d _) 0 rfl;clear d
 go_enter func247,ntmps247
 go_wp2;go_ret;exact⟨rfl,ql.alloc _ _⟩
def ux (b:Jb) (R:Nat) (v:Value) (w:World) (h:xZ w R v b) (d:xz b.hi):
  Calls prog 172 #[γ R] w λe w'=>e= .returned (.tuple #[ι (if b.begun then b.hi+1 else 0),b.begun])/\w=w':=by
 obtain⟨G,c1,c2,c3,c4,c5⟩:=h.cells ⟨w,ql.refl _⟩;obtain⟨H,I⟩:=d;clear h;cases hb:b.begun with
 | true=>
  rw[hb] at c3
  go_enter func172,ntmps172
  go_wp2
  go_ret2
  exact⟨rfl,rfl⟩
 | false=>
  rw[hb] at c3
  go_enter func172,ntmps172
  go_wp2
  go_ret2
  exact⟨rfl,rfl⟩
end
section
open Go.RowKit Go.Lib
def zX (b:Jb) (now:Int) (h:Hd):Bool:=decide (b.wait<=now-h.2.1)
def xa (b:Jb) (now:Int):Bool:=match b.holds with
 | []=>ύ
 | h::_=> !b.begun||h.1==b.hi+1||decide (b.room<=b.holds.length)||b.holds.any (zX b now)
def U7 (b:Jb) (R:Nat) (v:Value) (H:Int) (ae:xz H) (O N:Nat) (x:Hd) (ag:xz x.2.1) (w:World) (h:xZ w R v b)
  (Y:w.heap[O]? =ϊ (.cells #[ι H] 2 (0,0))) (U:w.heap[N]? =ϊ (.cells #[γ R] 131 (0,0))):
  Calls prog 171 #[θ #[ι x.1,ι x.2.1,ι x.2.2],γ O,γ N] w λe w'=>e= .returned (μ (zX b H x))/\ql w w':=by
 obtain⟨I,J,M⟩:=x;obtain⟨ac,ad⟩:=ag;obtain⟨aj,ak⟩:=ae;simp only at ac ad;have d:=ql.alloc w (.cells #[ι I,ι J,ι M] 338);obtain⟨W,G⟩: ∃W,W=w.alloc (.cells #[ι I,ι J,ι M] 338):=⟨_,rfl⟩;have aa:W.heap[w.heap.size]? =ϊ (.cells #[ι I,ι J,ι M] 338 (0,0)):=by rw[G];exact qj w _
 rw[<-G] at d;have c1: ∀x:qt W,x.w'.cell? ⟨R,1,ϋ⟩=ϊ (ι b.wait):=λx=>((h.on d).cells x).2.1
 have c3:=λ(x:qt W)=>β0 (qq (d.trans x.h) Y)
 have c2:=λ(x:qt W)=>β0 (qq (d.trans x.h) U)
 have ai:=λ(x:qt W)=>β1 (qq x.h aa)
 have ab:=κ d;clear h Y U aa d
 go_enter func171,ntmps171
 go_wp2_with fail
 rw[<-G];clear G;generalize w.heap.size=BX at *;refine qD W (ql.refl _) ξ ξ ?_
 repeat (go_big_quiet_step (fail))
 refine wpQuiet_nil ?_;intro _ af;obtain⟨ah,rfl⟩:=af;go_wp2;go_ret;exact⟨rfl,ab.o.trans ah.h⟩
def Z7 (b:Jb) (ok:JOK b) (R:Nat) (v:Value) (d:Int) (aC:xz d) (w:World) (h:xZ w R v b):
  Calls prog 119 #[γ R,ι d] w λe w'=>e= .returned (μ (xa b d))/\ql w w':=by
 obtain⟨W,G⟩: ∃W,W=(w.alloc (.cells #[γ R] 131)).alloc (.cells #[ι d] 2):=⟨_,rfl⟩;have aj:ql w W:=by rw[G];exact(ql.alloc w _).al _
 have ag:W.heap[w.heap.size]? =ϊ (.cells #[γ R] 131 (0,0)):=by rw[G];exact qs (qj w _) _
 have an:W.heap[w.heap.size+1]? =ϊ (.cells #[ι d] 2 (0,0)):=by rw[G];exact qC η
 have I:=κ (h.on aj);have aG: ∀x:qt W,x.w'.cell? ⟨R,0,ϋ⟩=ϊ (ι b.room):=λx=>(I.o.cells x).1
 have c2: ∀x:qt W,x.w'.cell? ⟨R,2,ϋ⟩=ϊ v:=λx=>(I.o.cells x).2.2.1
 have ao:W.cell? ⟨R,2,ϋ⟩=ϊ v:=(I.o.cells ⟨W,ql.refl _⟩).2.2.1;have ax:=λ(x:qt W)=>β0 (qq x.h ag)
 have aI:w.heap.size≠R:=λe=>by have:=lt_of_block h.blk;omega
 have ac:=κ aj;have N:=κ I.o.row;have ak:Hid (ZA 171 #[γ (w.heap.size+1),γ w.heap.size] (zX b d) b.holds W):=κ λW' x ap m=>
  U7 b R v d aC _ _ x (ok.nums x ap).2 W' (I.o.on m) (qq m an) (qq m ag)
 obtain⟨au,cap,rfl,aA⟩:=I.o.row.shape;obtain⟨aM,aN⟩:=ok.room;have ay:=ok.fits;obtain⟨ah,ai⟩:=ok.hi;clear h;have H:Hid (xZ ((w.alloc (.cells #[γ R] 131)).alloc (.cells #[ι d] 2)) R (δ au b.holds.length cap) b):=κ (G▸I.o);have aa:((w.alloc (.cells #[γ R] 131)).alloc (.cells #[ι d] 2)).cell? ⟨R,2,ϋ⟩=ϊ (δ au b.holds.length cap):=G▸ao;cases hbh:b.holds with
 | nil=>
  have ad:xa b d=ύ:=by unfold xa;rw[hbh]
  have J:=κ ad;have av:Hid (ql w ((w.alloc (.cells #[γ R] 131)).alloc (.cells #[ι d] 2))):=κ (G▸ac.o);rw[hbh,Ϫ] at aa;clear ad ak N ag an aj c2 ao ax G
  go_enter func119,ntmps119
  go_wp2;go_ret;exact⟨by rw[J.o];rfl,av.o⟩
 | cons k T=>
  have aB:b.holds.length=T.length+1:=by rw[hbh];rfl
  obtain⟨g,aH,e,az,aL,ar⟩:=N.o.cell 0 τ;cases e;have aJ: ∀x:qt W,x.w'.cell? ⟨g,0,ϋ⟩=ϊ (ι k.1):=λx=>by
   have:=(ar _ x.h).1;rw[M6,hbh] at this;exact this
  have ad:xa b d=(!b.begun||k.1==b.hi+1||decide (b.room<=b.holds.length)||b.holds.any (zX b d)):=by unfold xa;rw[hbh]
  have J:=κ ad;have aD: ¬(b.holds.length:Int)=0:=by omega
  have aE:(0:Int)<(b.holds.length:Int):=by omega
  clear ad ar ag an aj ao hbh aB az;obtain⟨am,aq⟩:=ν (b.holds.length);rw[aq] at c2 aa J aD aE aA ay H N;clear aq;generalize k.1=K1 at *;have af:Hid (∀W',ql W W'->ZA 171 #[γ (w.heap.size+1),γ w.heap.size] (zX b d) b.holds W'):=κ λW' m aw x ap aF=>ak.o aw x ap (m.trans aF)
  have ae: ∀args w,(callFunc 171 args).run prog w= .ok (.enter 171 args) w:=λargs w=>by kernel_rfl
  clear ak;cases hbg:b.begun with
  | false=>
   have ab:=κ hbg;have M:Hid (xa b d=ό):=κ (by rw[J.o,hbg];rfl);clear hbg J
   go_enter func119,ntmps119
   go_wp2_with (go_at_call 172;(go_call ux b R _ _ H.o ⟨ah,ai⟩ as e w1 ⟨rfl,rfl⟩;rw[ab.o]))
   rw[<-G];clear G H aa;generalize w.heap.size=B2 at *;refine qD W (ql.refl _) ξ ξ ?_
   repeat (go_big_quiet_step ((go_at_call 173;with_reducible exact j6 (xt _ _ (zX b d) ae b.holds _ (R+1) _ (N.o.more (qt.h _)) (af.o _ (qt.h _))))))
   refine wpQuiet_nil ?_;intro _ O;obtain⟨U,rfl⟩:=O;go_wp2;go_ret;exact⟨by rw[M.o];rfl,ac.o.trans U.h⟩
  | true=>
   have ab:=κ hbg;have Y:Hid (xa b d=(K1==b.hi+1||decide (b.room<=(am:Int))||b.holds.any (zX b d))):=κ (by rw[J.o,hbg];rfl);clear hbg J;cases hk:(K1==b.hi+1) with
   | true=>
    have M:Hid (xa b d=ό):=κ (by rw[Y.o,hk];rfl);clear Y
    go_enter func119,ntmps119
    go_wp2_with (go_at_call 172;(go_call ux b R _ _ H.o ⟨ah,ai⟩ as e w1 ⟨rfl,rfl⟩;rw[ab.o]))
    rw[<-G];clear G H aa;generalize w.heap.size=B2 at *;refine qD W (ql.refl _) ξ ξ ?_
    repeat (go_big_quiet_step ((go_at_call 173;with_reducible exact j6 (xt _ _ (zX b d) ae b.holds _ (R+1) _ (N.o.more (qt.h _)) (af.o _ (qt.h _))))))
    refine wpQuiet_nil ?_;intro _ O;obtain⟨U,rfl⟩:=O;go_wp2;go_ret;exact⟨by rw[M.o];rfl,ac.o.trans U.h⟩
   | false=>
    by_cases hf:b.room<=(am:Int)
    ·have M:Hid (xa b d=ό):=κ (by rw[Y.o,hk,ϭ hf];rfl);clear Y
     go_enter func119,ntmps119
     go_wp2_with (go_at_call 172;(go_call ux b R _ _ H.o ⟨ah,ai⟩ as e w1 ⟨rfl,rfl⟩;rw[ab.o]))
     rw[<-G];clear G H aa;generalize w.heap.size=B2 at *;refine qD W (ql.refl _) ξ ξ ?_
     repeat (go_big_quiet_step ((go_at_call 173;with_reducible exact j6 (xt _ _ (zX b d) ae b.holds _ (R+1) _ (N.o.more (qt.h _)) (af.o _ (qt.h _))))))
     refine wpQuiet_nil ?_;intro _ O;obtain⟨U,rfl⟩:=O;go_wp2;go_ret;exact⟨by rw[M.o];rfl,ac.o.trans U.h⟩
    ·have M:Hid (xa b d=b.holds.any (zX b d)):=κ (by rw[Y.o,hk,ϫ hf];rfl);have aK:decide (b.room<=(am:Int))=ύ:=ϫ hf;clear Y hf
     go_enter func119,ntmps119
     go_wp2_with (go_at_call 172;(go_call ux b R _ _ H.o ⟨ah,ai⟩ as e w1 ⟨rfl,rfl⟩;rw[ab.o]))
     rw[<-G];clear G H aa;generalize w.heap.size=B2 at *;refine qD W (ql.refl _) ξ ξ ?_
     repeat (go_big_quiet_step ((go_at_call 173;with_reducible exact j6 (xt _ _ (zX b d) ae b.holds _ (R+1) _ (N.o.more (qt.h _)) (af.o _ (qt.h _))))))
     refine wpQuiet_nil ?_;intro _ O;obtain⟨U,rfl⟩:=O;go_wp2;go_ret;exact⟨by rw[M.o];rfl,ac.o.trans U.h⟩
end
section
open Go.RowKit Go.Lib
def wK (b:Jb) (n:Int):Int×Int:=if b.begun then zt b.hi b.bits n else (n,1)
def xT (b:Jb):Jb:=match b.holds with
 | []=>b
 | h::T=>{b with holds:=T,begun:=ό,hi:=(wK b h.1).1,bits:=(wK b h.1).2}
def uY {n:Int} (h:xz n):Mid n:=by obtain⟨d,G⟩:=h;unfold Mid;omega
structure NQ (w w':World) (R:Nat) (v v':Value) (b':Jb):Prop where
 buf:xZ w' R v' b'
 away:jt (λk=>k=R∨v.ownBlock=ϊ k) w w'
 own:v'.ownBlock=v.ownBlock∨ ∃g,v'.ownBlock=ϊ g/\w.heap.size<=g
def zT.away {S:Nat->Prop} (h:zT w base v L) (a:jt S w w') (H: ∀k,v.ownBlock=ϊ k-> ¬S k):zT w' base v L:=by
 obtain⟨d,G⟩:=h;refine⟨d, ?_⟩;rcases G with h | ⟨g,cap,cur,e1,hb,hg,rest⟩
 ·exact ϒ h
 ·exact ϔ ⟨g,cap,cur,e1,hb,a.blk hg (H g (by rw[e1];rfl)),rest⟩
def jt.old {a b:World} {S S':Nat->Prop} (m:ql w a) (h:jt S a b) (H: ∀k,S k->S' k∨w.heap.size<=k):jt S' w b:=
 ⟨h.os.trans m.os,h.tape.trans m.tape,h.output.trans m.output,Ϙ m.size h.size,λk d G=>by
  rw[h.block k (ϗ d m.size) (λx=>(H k x).elim G (λy=>by omega))]
  exact m.block k d⟩
def zT.own_ge (h:zT w base v L) {k:Nat} (d:v.ownBlock=ϊ k):base<=k/\k<w.heap.size:=by
 rcases h.2 with ⟨rfl,_⟩ | ⟨g,cap,cur,rfl,G,H,_⟩
 ·cases d
 ·obtain rfl:g=k:=by injection d
  exact⟨G,lt_of_block H⟩
def AK (w:World) (B:Nat) (v0 d G:Value):jt (λk=>k=B) w (((w.setCell ⟨B,0,ϋ⟩ v0).setCell ⟨B,1,ϋ⟩ d).setCell ⟨B,2,ϋ⟩ G):=
 (((jt.refl (λk=>k=B) w).set (p:=⟨B,0,ϋ⟩) rfl v0).set (p:=⟨B,1,ϋ⟩) rfl d).set (p:=⟨B,2,ϋ⟩) rfl G
def ZQ {w5:World} {G g I cap J:Nat} {O:Option Addr} {b:Jb} {T:List Hd} {H M N ab Y:Int} {X:Value} (ah:b.holds=(H,M,N)::T) (ap:wK b H=(ab,Y))
  (aj:w5.heap[R]? =ϊ (.cells ((yc b X).setIfInBounds 2 (δ O I J)) 235 (0,0))) (ak:w5.heap[G]? =ϊ (.cells #[ι 0,ι 0,ι 0] 338 (0,0)))
  (al:zT w5 (R+1) (δ O I J) T) (ac:(δ O I J).ownBlock=ϊ g) (ai:jt (λk=>k=R∨k=g) w w5) (aq:w.heap.size<=G) (ar:R<w.heap.size) (au:g≠R) (av:g<w.heap.size)
  {WF:World} (e:((((((w5.setCell ⟨R,4,ϋ⟩ (ι ab)).setCell ⟨R,5,ϋ⟩ (ψ Y)).setCell ⟨R,3,ϋ⟩ (μ ό)).setCell ⟨G,0,ϋ⟩ (ι H)).setCell ⟨G,1,ϋ⟩ (ι M)).setCell ⟨G,2,ϋ⟩ (ι N))=WF):
  WF.cell? ⟨G,0,ϋ⟩=ϊ (ι H)/\WF.cell? ⟨G,1,ϋ⟩=ϊ (ι M)/\WF.cell? ⟨G,2,ϋ⟩=ϊ (ι N)/\NQ w WF R (δ (ϊ ⟨g,0,ϋ⟩) (I+1) cap) (δ O I J) (xT b):=by
 obtain⟨w6,ae⟩:=ν (((w5.setCell ⟨R,4,ϋ⟩ (ι ab)).setCell ⟨R,5,ϋ⟩ (ψ Y)).setCell ⟨R,3,ϋ⟩ (μ ό));rw[ae] at e;have af:=qp (qp (qp aj 4 (ι ab)) 5 (ψ Y)) 3 (μ ό);rw[ae] at af;have ad:jt (λk=>k=R) w5 w6:=by
  rw[<-ae];exact(((jt.refl (λk=>k=R) w5).set (p:=⟨R,4,ϋ⟩) rfl _).set (p:=⟨R,5,ϋ⟩) rfl _).set (p:=⟨R,3,ϋ⟩) rfl _
 have ag:R≠G:=by omega
 have ao:=ad.blk ak (λx=>ag x.symm);have U:=AK w6 G (ι H) (ι M) (ι N);have aa:=qp (qp (qp ao 0 (ι H)) 1 (ι M)) 2 (ι N);rw[e] at U aa;have an:=U.blk af ag;refine⟨qm aa 0 rfl,qm aa 1 rfl,qm aa 2 rfl,⟨qB an ?_, ?_⟩, ?_,ϒ (by rw[ac];rfl)⟩
 ·simp only[xT,ah,ap];rfl
 ·have:zT WF (R+1) (δ O I J) T:=(al.away ad (λk d x=>by rw[ac] at d;injection d with d;omega)).away U (λk d x=>by rw[ac] at d;injection d with d;omega);simp only[xT,ah];exact this
 ·have am:jt (λk=>k=R∨k=g∨k=G) w WF:=(ai.mono λk d=>d.elim ϒ (λx=>ϔ (ϒ x))).trans ((ad.mono λk d=>ϒ d).trans (U.mono λk d=>ϔ (ϔ d)));refine jt.old (ql.refl w) am λk d=> ?_
  rcases d with d | d | d
  ·exact ϒ (ϒ d)
  ·exact ϒ (ϔ (by rw[d];rfl))
  ·exact ϔ τ
def Z9 (b:Jb) (h:Hd) (T:List Hd) (ar:b.holds=h::T) (aL:JOK b) (R:Nat) (v:Value) (w:World) (am:xZ w R v b):
  Calls prog 178 #[γ R] w λe w'=>e= .returned (θ #[ι h.1,ι h.2.1,ι h.2.2])/\ ∃v',NQ w w' R v v' (xT b):=by
 obtain⟨I,Y,aa⟩:=h;have bB:=(aL.nums (I,Y,aa) (by rw[ar];exact Ϟ)).1;have bz:=uY bB;have bA:=uY aL.hi;have bx:b.holds.length=T.length+1:=by rw[ar];rfl
 obtain⟨W2,aw⟩: ∃W2,W2=(w.alloc (.cells #[ι 0,ι 0,ι 0] 338)).alloc (.cells #[ι I,ι Y,ι aa] 338):=⟨_,rfl⟩;have ax:ql w W2:=by rw[aw];exact(ql.alloc w _).al _
 have av:=am.row;rw[ar] at av;obtain⟨g,cap,rfl,bL,bc,bb⟩:=av.cell 0 η;obtain⟨bt,bu,bv⟩:=bb _ (ql.alloc w (.cells #[ι 0,ι 0,ι 0] 338));rw[M6] at bt bu bv;have bo:=(am.on (ql.alloc w (.cells #[ι 0,ι 0,ι 0] 338))).cells ⟨_,ql.refl _⟩;obtain⟨_,_,aX,_,_,_⟩:=bo;have bp:=(am.on ((ql.alloc w (.cells #[ι 0,ι 0,ι 0] 338)).al (.cells #[ι I,ι Y,ι aa] 338))).cells ⟨_,ql.refl _⟩;obtain⟨_,_,aY,_,_,_⟩:=bp;have au:=κ (av.more ax);have aE:=κ (am.on ax);have bd:W2.heap[w.heap.size]? =ϊ (.cells #[ι 0,ι 0,ι 0] 338 (0,0)):=by rw[aw];exact qs (qj w _) _
 have be:W2.heap[w.heap.size+1]? =ϊ (.cells #[ι I,ι Y,ι aa] 338 (0,0)):=by rw[aw];exact qC η
 rw[ϙ] at aX aY au aE ⊢;have aJ:g≠R:=by omega
 have ba:=lt_of_block am.blk;have bk:=κ ax;have bl:=κ bd;have bm:=κ be;obtain⟨d,aK⟩:=ν (T.length);rw[aK] at aX aY au aE ⊢
 have aU:Hid (∀w',w'=W2->Calls prog 235 #[δ (ϊ ⟨g,0,ϋ⟩) (d+1) cap,ι 0,ι 1] w' λe U=> ∃J H,e= .returned (δ J d H)/\zT U (R+1) (δ J d H) T/\
   U.heap[R]? =ϊ (.cells (yc b (δ (ϊ ⟨g,0,ϋ⟩) (d+1) cap)) 235 (0,0))/\U.heap[w.heap.size]? =ϊ (.cells #[ι 0,ι 0,ι 0] 338 (0,0))/\U.heap[w.heap.size+1]? =ϊ (.cells #[ι I,ι Y,ι aa] 338 (0,0))/\
   jt (λk=>k=g) w U/\(δ J d H).ownBlock=ϊ g):=κ λw' e=>by
  subst e;refine(Vc (I,Y,aa) T _ (R+1) _ au.o).mono ?_;rintro e U ⟨v3,rfl,ad,a3,ag⟩;obtain⟨J,H,rfl,_⟩:=ad.shape;rw[aK] at ad ag ⊢;have key: ∀k,(δ (ϊ ⟨g,0,ϋ⟩) (d+1) cap).ownBlock=ϊ k->k=g:=λk O=>by injection O with O;exact O.symm
  have bw:w'.heap[R]? =ϊ (.cells (yc b (δ (ϊ ⟨g,0,ϋ⟩) (d+1) cap)) 235 (0,0)):=aE.o.blk;exact⟨J,H,rfl,ad,a3.blk bw (λx=>aJ (key _ x).symm),a3.blk bl.o (λx=>by have:=key _ x;omega),a3.blk bm.o (λx=>by have:=key _ x;omega),jt.old bk.o a3 (λk O=>ϒ (key _ O)),ag⟩
 have aW:=κ aw;have aT:=κ ar;clear bb au ax bd be ar bx av aK;cases hbg:b.begun with
 | false=>
  have ah:=κ hbg;clear hbg
  go_enter func178,ntmps178
  go_wp2_with (first | (go_at_call 235;(go_call aU.o _ aW.o.symm as e U ⟨J,H,rfl,ad,M,ao,ai,a3,ag⟩;have az:=κ M;have aB:=κ ao;have aC:=κ ai;have aG:=κ ad;have ay:=κ a3;have an:=κ ag;unfold yc at M;rw[ah.o] at M;have aP:=qm M 2 rfl;have aS:=yw M 2;have aQ:=qm M 3 rfl;have z3:=yw M 3;have aR:=qm ai 0 rfl;clear M ao ai a3 ag ad)) | (go_at_call 237;(go_call Ya I _ as e w5 ⟨rfl,af⟩;have G:=qq af (qp az.o 2 (δ J d H));have N:=qq af (qo aB.o ⟨R,2,ϋ⟩ (δ J d H) (by simp;omega));have ac:=qq af (qo aC.o ⟨R,2,ϋ⟩ (δ J d H) (by simp;omega));have aA:=κ G;have aD:=κ N;have bK:=κ ac;have ab:=κ af;unfold yc at G;rw[ah.o] at G;have bH:=qm G 3 rfl;have bI:=qm G 4 rfl;have bJ:=qm G 5 rfl;have bC:=yw G 3;have bD:=yw G 4;have bE:=yw G 5;have bF:=qm N 0 rfl;have bG:=qm N 1 rfl;have p2:=qm N 2 rfl;have bq:=yw N 0;have br:=yw N 1;have bs:=yw N 2;have t0:=qm ac 0 rfl;have t1:=qm ac 1 rfl;have t2:=qm ac 2 rfl;clear G N ac af aP aS aQ z3 aR)))
  have aq:zT w5 (R+1) (δ J d H) T:=(aG.o.away ((jt.refl (λk=>k=R) U).set (p:=⟨R,2,ϋ⟩) rfl (δ J d H)) (λk O x=>by rw[an.o] at O;injection O with O;omega)).more ab.o;have ap:jt (λk=>k=R∨k=g) w w5:=((ay.o.mono λk O=>ϔ O).trans ((jt.refl (λk=>k=R∨k=g) U).set (p:=⟨R,2,ϋ⟩) (ϒ rfl) (δ J d H))).more ab.o;obtain⟨WF,aj⟩:=ν (((((((w5.setCell ⟨R,4,ϋ⟩ (ι I)).setCell ⟨R,5,ϋ⟩ (ψ 1)).setCell ⟨R,3,ϋ⟩ (μ ό)).setCell ⟨w.heap.size,0,ϋ⟩ (ι I)).setCell ⟨w.heap.size,1,ϋ⟩ (ι Y)).setCell ⟨w.heap.size,2,ϋ⟩ (ι aa)));obtain⟨aM,aN,aO,st⟩:=ZQ (cap:=cap) aT.o (show wK b I=(I,1) by unfold wK;rw[ah.o];rfl) aA.o aD.o aq an.o ap (ϕ _) ba aJ bc aj;rw[aj];clear aj aq ap
  (refine bodyPost_ret (v:= θ #[ι I,ι Y,ι aa]) ?rr1 rfl ?_;(case rr1=>(simp[results,results178,go_sem,aM,aN,aO])))
  exact⟨rfl,_,st⟩
 | true=>
  have ah:=κ hbg;clear hbg
  go_enter func178,ntmps178
  go_wp2_with (go_at_call 235;(go_call aU.o _ aW.o.symm as e U ⟨J,H,rfl,ad,M,ao,ai,a3,ag⟩;have az:=κ M;have aB:=κ ao;have aC:=κ ai;have aG:=κ ad;have ay:=κ a3;have an:=κ ag;unfold yc at M;rw[ah.o] at M;have aP:=qm M 2 rfl;have aS:=yw M 2;have aQ:=qm M 3 rfl;have z3:=yw M 3;have aR:=qm ai 0 rfl;clear M ao ai a3 ag ad))
  generalize ak:U.setCell ⟨R,2,ϋ⟩ (δ J d H)=w4 at *;have aH:w4.heap[R]? =ϊ (.cells ((yc b (δ (ϊ ⟨g,0,ϋ⟩) (d+1) cap)).setIfInBounds 2 (δ J d H)) 235 (0,0)):=by rw[<-ak];exact qp az.o 2 _
  have aZ:w4.heap[w.heap.size]? =ϊ (.cells #[ι 0,ι 0,ι 0] 338 (0,0)):=by rw[<-ak];exact qo aB.o ⟨R,2,ϋ⟩ (δ J d H) (by simp;omega)
  have aI:w4.heap[w.heap.size+1]? =ϊ (.cells #[ι I,ι Y,ι aa] 338 (0,0)):=by rw[<-ak];exact qo aC.o ⟨R,2,ϋ⟩ (δ J d H) (by simp;omega)
  have bf:zT w4 (R+1) (δ J d H) T:=by
   rw[<-ak];exact aG.o.away ((jt.refl (λk=>k=R) U).set (p:=⟨R,2,ϋ⟩) rfl (δ J d H)) (λk O x=>by rw[an.o] at O;injection O with O;omega)
  have a4:jt (λk=>k=R∨k=g) w w4:=by
   rw[<-ak];exact(ay.o.mono λk O=>ϔ O).trans ((jt.refl (λk=>k=R∨k=g) U).set (p:=⟨R,2,ϋ⟩) (ϒ rfl) (δ J d H))
  have bh:=κ aH;have bi:=κ aZ;have bj:=κ aI;have bn:=κ bf;have bg:=κ a4;have aF:=λ(x:qt w4)=>qq x.h aH
  have c4:=λx=>β4 (aF x);have c5:=λx=>β5 (aF x);clear aF
  have c1:=λ(x:qt w4)=>β0 (qq x.h aI)
  clear aH aZ aI bf a4 ak aP aS aQ z3 aR;refine Qn w4 10 11 [7,8,10] ?_
  refine Qq7 ?_
  (refine Ql ?_;intro K ae)
  refine(gS b.hi b.bits I bA bz aL.bits _).mono ?_;rintro e w5 ⟨rfl,af⟩;have ab:ql w4 w5:=(ql.drewN w4 1).trans af;refine⟨_,rfl,qk ab,ae _ _ ?_⟩;clear ae K af
  (refine Ql ?_;intro K ae)
  refine⟨qk ab,ae _ _ ?_⟩;clear ae K
  refine Qq1 ?_
  have G:=qq ab bh.o;have N:=qq ab bi.o;have ac:=qq ab bj.o;have aA:=κ G;have aD:=κ N;have aV:=κ ab;unfold yc at G;rw[ah.o] at G;have bH:=qm G 3 rfl;have bI:=qm G 4 rfl;have bJ:=qm G 5 rfl;have bC:=yw G 3;have bD:=yw G 4;have bE:=yw G 5;have bF:=qm N 0 rfl;have bG:=qm N 1 rfl;have p2:=qm N 2 rfl;have bq:=yw N 0;have br:=yw N 1;have bs:=yw N 2;have t0:=qm ac 0 rfl;have t1:=qm ac 1 rfl;have t2:=qm ac 2 rfl;clear G N ac ab c4 c5 c1
  (refine Qe ?_;intro K ae)
  refine ae _ _ ?_;clear ae K;refine qA ?_;go_wp2;have aq:zT w5 (R+1) (δ J d H) T:=bn.o.more aV.o;have ap:jt (λk=>k=R∨k=g) w w5:=bg.o.more aV.o;obtain⟨WF,aj⟩:=ν (((((((w5.setCell ⟨R,4,ϋ⟩ (ι (zt b.hi b.bits I).1)).setCell ⟨R,5,ϋ⟩ (ψ (zt b.hi b.bits I).2)).setCell ⟨R,3,ϋ⟩ (μ ό)).setCell ⟨w.heap.size,0,ϋ⟩ (ι I)).setCell ⟨w.heap.size,1,ϋ⟩ (ι Y)).setCell ⟨w.heap.size,2,ϋ⟩ (ι aa)));obtain⟨aM,aN,aO,st⟩:=ZQ (cap:=cap) aT.o (show wK b I=((zt b.hi b.bits I).1,(zt b.hi b.bits I).2) by unfold wK;rw[ah.o];rfl) aA.o aD.o aq an.o ap (ϕ _) ba aJ bc aj;rw[aj];clear aj aq ap
  (refine bodyPost_ret (v:= θ #[ι I,ι Y,ι aa]) ?rr2 rfl ?_;(case rr2=>(simp[results,results178,go_sem,aM,aN,aO])))
  exact⟨rfl,_,st⟩
end
section
open Go.RowKit Go.Lib
def atJ (L:List Hd) (n:Int):Nat:=L.findIdx λk=>decide (n<k.1)
def ue (L:List Hd) (h:Hd):List Hd:=L.take (atJ L h.1)++h::L.drop (atJ L h.1)
def JM (b:Jb) (n:Int):Bool:=b.holds.any λk=>k.1==n
def jP (b:Jb) (n now x:Int):Jb×Int:=
 if JM b n||(b.begun&&yi b.hi b.bits n) then (b,10)
 else if b.begun&&decide (n<b.hi+1) then (b,9)
 else if b.room<=b.holds.length then (b,8)
 else ({b with holds:=ue b.holds (n,now,x)},0)
def Ua (L:List Hd) (n:Int):atJ L n<=L.length:=List.findIdx_le_length
def Fx (L:List Hd) (n:Int):(Jk (λk=>decide (n<k.1)) L=(atJ L n:Int)/\atJ L n<L.length)∨(Jk (λk=>decide (n<k.1)) L= -1/\atJ L n=L.length):=by
 unfold Jk;have:=Ua L n;unfold atJ at *;by_cases h:L.findIdx (λk=>decide (n<k.1))<L.length
 ·left;rw[ϐ h];exact⟨rfl,h⟩
 ·right;rw[ώ h];exact⟨rfl,τ⟩
def NQ.keep {b:Jb} (m:ql w w') (d:xZ w' R v b):NQ w w' R v v b:=⟨d,jt.of_more m,ϒ rfl⟩
end
end Go.Proofs.YtlmllmonabafjaaGreatDoor
