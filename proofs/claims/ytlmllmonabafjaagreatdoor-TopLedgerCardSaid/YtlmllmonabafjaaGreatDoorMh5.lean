/- x -/
import Derived.Test.YtlmllmonabafjaaGreatDoorMh4
import Derived.KernelRfl
import Derived.Deep.AppendLies
import Derived.Shelf.RegionOpenPlain
import Derived.Deep.RegionLaw
import Derived.Laws.IdiomCopy
import Derived.Lib.AppendZeros
import Derived.Lib.AppendZerosOnto
import Derived.Lib.Overlaps
namespace Go.Proofs.YtlmllmonabafjaaGreatDoor
open Option renaming some->ϊ,none->ϋ
open Bool renaming true->ό,false->ύ
open Go.Value renaming bool->μ,slice->δ,pointer->π,agg->θ
open Go.IntKind renaming i64->ι,u8->υ,u16->φ,u32->ω,i32->χ,u64->ψ
open _root_.Go.Proofs.Tryz
set_option linter.all false
set_option maxHeartbeats 8000000
open Go.RowKit
set_option maxRecDepth 100000
variable {w w':World} {q:List (List Value)} {v vo v':Value} {Q:Exit->Act->World->Prop} {base R:Nat} {K:Act->World->Prop} {D N:Nat->Prop} {P:Program} {ops:Array Oper} {l:List ItS} {k:LnB} {s s':LnS} {a:Act} {o:Oper} {E:Prop}
def Pv {t:TypeId} (h:w.heap[k.L]? =ϊ (.cells (jQ k vo s) t (0,0))):w.rangeAt k.L 7 [ω s.rw.src,φ s.rw.sq,ω s.rw.st,s.rw.any,ω s.rw.last,ω s.rw.shift]:=λj v d=>by
 match j,d with
 | 0,d=>exact qm h 7 d
 | 1,d=>exact qm h 8 d
 | 2,d=>exact qm h 9 d
 | 3,d=>exact qm h 10 d
 | 4,d=>exact qm h 11 d
 | 5,d=>exact qm h 12 d
def Zm {C:World->Prop} (d:TypeId) (x:Operand) (N:o.op= .load d x) (b I:Nat) (U:a.eval x= π (ϊ ⟨b,I,ϋ⟩)) (cs:List Value) (H:TypeDesc) (J:w.rangeAt b I cs)
  (O:P.underlying d=ϊ H) (M:H.isRow=ό) (hi:(P.info? d).map (·.size)=ϊ cs.length) (h:C w/\K (a.put o.dst (θ cs.toArray)) w):jn P C o a w K:=by
 unfold jn execOp;simp only[N,U,Instr.loadAt,Instr.sureAddr,Sem.run_bind,Sem.run_pure,Result.andThen_ok,run_loadVar_mid w b I d cs H J O M hi];exact h
def Zj (h:LnX N w k vo s) (H:vC s 2=ύ):Calls prog 138 #[γ k.L] w λe w'=>e= .returned (.tuple #[ι 0,ύ,ύ])/\ql w w':=by
 have d:=Yz h;rw[H] at d;have d:=κ d;clear H h
 go_enter func138,ntmps138
 go_wp2_with (go_at_call 74;(go_call d.o as e w1 ⟨rfl,I⟩;have J:=κ I;clear I))
 refine bodyPost_ret (v:= .tuple #[ι 0,ύ,ύ]) (by simp[results,results138,go_sem]) rfl ?_;exact⟨rfl,J.o⟩
def XQ (h:LnX N w k vo s) (x:ItS) (ad:Bool) (T:List (ItS×Bool)) (bX:s.B=(x,ad)::T) (X Z Q:Int) (bZ:shL s.rw x.pk.st ad=X) (bl:(x.pk.st+X)%4294967296=Z) (bk:(s.rw.sq+1)%65536=Q):
  Calls prog 138 #[γ k.L] w λe w'=>e= .returned (.tuple #[ι (if s.C.length<s.room then 0 else (s.C.head?.map (·.1)).getD 0),(decide (¬s.C.length<s.room)),ό])/\
   LnX (xf N w w') w' k vo {s with B:=T,rw:=⟨s.rw.src,Q,s.rw.st,ό,Z,X⟩,C:=if s.C.length<s.room then s.C++[(x.id,pkB {x.pk with sq:=s.rw.sq,st:=Z,sc:=s.rw.src})] else s.C.tail++[(x.id,pkB {x.pk with sq:=s.rw.sq,st:=Z,sc:=s.rw.src})]}/\jt N w w':=by
 have Y:=κ h;have aE:=Yz h;have cb:vC s 2=ό:=by
  show decide (0<s.B.length)=ό;rw[bX];simp
 rw[cb] at aE;have aE:=κ aE;have cI:=κ (λ(mr:Bool) (ty q so:Int) (w:World)=>AI s.rw.src s.rw.sq s.rw.st s.rw.last s.rw.shift s.rw.any ad mr ty q x.pk.st so w X bZ Z bl Q bk);have cW:U32 Z:=by rw[<-bl];exact⟨τ,τ⟩
 have cV:U16 Q:=by rw[<-bk];exact⟨τ,τ⟩
 obtain⟨aM,dy,bP,cN,bM,bO,cP,ax,bd⟩:=h.r2;rw[bX] at bd;obtain⟨c,q,rfl,aH,bL⟩:=bd.uncons;have AQ:=κ bL;obtain⟨dD,dB,vp,rfl,⟨⟨os,J,rfl,_⟩,⟨M,ke,rfl,_⟩,⟨O,I,rfl,_⟩⟩,aa,ci⟩:=aH.read;have aP: ∀w',jt (lnE N k vo) w w'->PkS w' (δ os x.pk.ss.length J) (δ M x.pk.ex.length ke) (δ O x.pk.pl.length I) x.pk:=λw' a=>by
  obtain⟨dE,dC,vp',e,ce,_⟩:=aH w' a;simp[itC] at e;obtain⟨aw,aK,aL⟩:=e;rw[<-aw,<-aK,<-aL] at ce;exact ce
 have bm:uf {x.pk with sq:=s.rw.sq,st:=Z,sc:=s.rw.src}:=⟨aa.ty,h.ok.sq,cW,h.ok.src,aa.ss,aa.pr,aa.ex,aa.pl⟩;have bp:jJ {x.pk with sq:=s.rw.sq,st:=Z,sc:=s.rw.src}=ό:=ci;have cC:Hid (∀w',jt (lnE N k vo) w w'->Calls prog 37 #[θ #[μ x.pk.mr,υ x.pk.ty,φ s.rw.sq,ω Z,ω s.rw.src,δ os x.pk.ss.length J,x.pk.has,φ x.pk.pr,δ M x.pk.ex.length ke,δ O x.pk.pl.length I]] w' λe w''=>(∃v,e= .returned (.tuple #[v,ι 0])/\w''.ownsRow w'.heap.size 5 1 v (pkB {x.pk with sq:=s.rw.sq,st:=Z,sc:=s.rw.src}).length ((pkB {x.pk with sq:=s.rw.sq,st:=Z,sc:=s.rw.src}).map (Value.int .u8)))/\ql w' w''):=
  κ λw' a=>gi {x.pk with sq:=s.rw.sq,st:=Z,sc:=s.rw.src} _ _ _ w' ⟨(aP w' a).s,(aP w' a).e,(aP w' a).l⟩ bm bp
 have aW:Hid ((pkB {x.pk with sq:=s.rw.sq,st:=Z,sc:=s.rw.src}).length<=200/\Byt (pkB {x.pk with sq:=s.rw.sq,st:=Z,sc:=s.rw.src})):=κ ⟨by
  have cS:=Ey {x.pk with sq:=s.rw.sq,st:=Z,sc:=s.rw.src};have cT:=((yq _).1 bp).2.2.2.2
  omega,Iy bm⟩
 clear aP aa bm ci bp bZ bl bk;generalize pkB {x.pk with sq:=s.rw.sq,st:=Z,sc:=s.rw.src}=body at *;obtain⟨df,bq⟩:=ν ((if s.C.length<s.room then 0 else (s.C.head?.map (·.1)).getD 0));obtain⟨de,bo⟩:=ν (decide (¬s.C.length<s.room));obtain⟨dz,bn⟩:=ν ((if s.C.length<s.room then s.C++[(x.id,body)] else s.C.tail++[(x.id,body)]));rw[bq,bo,bn];have cH:=κ bq;have cG:=κ bo;have cF:=κ bn;clear bq bo bn;simp only[itC,List.cons_append,J0] at aH ax;have cy:=κ ax;have dq:k.R2<w.heap.size:=qn ax.ring;have dm:k.A2<w.heap.size:=qn ax.row;have ae:=κ h.dist;clear h cb ax aH bL bd
 go_enter func138,ntmps138
 go_wp2_with (first | (go_at_call 74;(go_call aE.o as e w1 ⟨rfl,az⟩;have cJ:=κ az;have bC:=κ (qq az Y.o.blk);have dG:Hid (w.heap.size<=w1.heap.size):=κ az.size;have cx:=κ (cy.o.more az);clear az;have c2:w1.cell? ⟨k.L,2,ϋ⟩=ϊ (π (ϊ ⟨k.R2,0,ϋ⟩)):=qm bC.o 2 rfl)) | (go_at_call 200;(go_call Nc w1 k.R2 k.A2 s.room aM _ q bP cN bM bO cP cx.o as e w2 ⟨rfl,⟨cO,bV⟩,be⟩;have cz:=κ bV;have A2:Hid (jt (RgB k.R2 k.A2) w w2):=κ ((jt.of_more cJ.o).trans be);have aR:Hid (w2.heap[k.L]? =ϊ (.cells (jQ k vo s) 153 (0,0))):=κ (be.blk bC.o (by obtain⟨⟨ag,ao,ah,ai,_⟩,_⟩:=ae.o;rintro(e | e)<;>omega));clear bV be)))
 obtain⟨ac,ay⟩:=ν ((w2.alloc (.cells (Γk x os J M ke O I ad) 255)).alloc (.cells (Γh x.pk os J M ke O I) 63));have aY:Hid (ql w2 ac):=κ (by rw[<-ay];exact X8.al _);have bb:Hid (ac.heap[w2.heap.size]? =ϊ (.cells (Γk x os J M ke O I ad) 255 (0,0))):=κ (by rw[<-ay];exact qs (qj w2 _) _);have ba:Hid (ac.heap[w2.heap.size+1]? =ϊ (.cells (Γh x.pk os J M ke O I) 63 (0,0))):=κ (by rw[<-ay];exact qC η);have aS:=κ (qq aY.o aR.o);rw[ay];clear ay;have ct: ¬w2.heap.size=k.L:=by have:=qn aR.o;omega
 have bt: ¬w2.heap.size+1=k.L:=by have:=qn aR.o;omega
 have bG: ∀y:qz (λb=>b=k.L) ac,y.w'.rangeAt (w2.heap.size+1) 0 [μ x.pk.mr,υ x.pk.ty,φ x.pk.sq,ω x.pk.st,ω x.pk.sc]:=λy=>by
  have:=xy (cs:=(Γh x.pk os J M ke O I)) (y.h.blk ba.o bt);intro j v ap;refine this j v ?_;have cX:=(ϟ.1 ap).1;rw[<-ap];exact Θ (l₁:=[μ x.pk.mr,υ x.pk.ty,φ x.pk.sq,ω x.pk.st,ω x.pk.sc]) (l₂:=[δ os x.pk.ss.length J,x.pk.has,φ x.pk.pr,δ M x.pk.ex.length ke,δ O x.pk.pl.length I]) cX
 have cM: ∀y:qz (λb=>b=k.L) ac,y.w'.cell? ⟨w2.heap.size,13,ϋ⟩=ϊ (μ ad):=λy=>qm (y.h.blk bb.o ct) 13 rfl
 refine zp (λb=>b=k.L) ac 17 [(0,ύ),(1,ύ),(2,ύ),(3,ύ),(5,ύ),(6,ύ),(7,ύ),(8,ύ),(4,ό),(9,ό),(10,ύ),(11,ύ),(12,ύ),(13,ύ),(14,ύ),(15,ό),(16,ύ),(17,ό)] ξ ξ ?_
 refine Qs5 ?_
 refine jh rfl rfl (qi σ) 60 (.tmp 33) rfl (w2.heap.size+1) 0 rfl [μ x.pk.mr,υ x.pk.ty,φ x.pk.sq,ω x.pk.st,ω x.pk.sc] _ (λw' dc=>by obtain⟨y,rfl⟩:=dc;exact bG y) underlying60 rfl ξ ?_;intro K d;go_simp;refine d _ ?_;clear d K
 refine Qs2 ?_
 refine jR rfl rfl ?_;intro K d;refine Zm 149 (.tmp 31) rfl k.L 7 rfl [ω s.rw.src,φ s.rw.sq,ω s.rw.st,s.rw.any,ω s.rw.last,ω s.rw.shift] _ (Pv (qr aS.o 1)) underlying149 rfl ξ ?_;refine⟨qi σ, ?_⟩;go_simp;refine d _ _ ?_;clear d K
 (refine Ql ?_;intro K d)
 go_call cI.o _ _ _ _ _ as e w5 ⟨rfl,cp⟩;have af:Hid (ql ac w5):=κ ((ql.drewN _ 1).trans cp);clear cp;have aT:=κ (qq af.o aS.o);have bH:=κ (qq af.o ba.o);have bJ:=κ (qq af.o bb.o);refine⟨_,rfl,qi (jt.of_more af.o),d _ _ ?_⟩;clear d K bG cM
 iterate 5 (refine qE rfl rfl (qi (jt.of_more af.o)) ?_;intro K d;go_big_quiet_op;go_big_quiet_on)
 refine jR rfl rfl ?_;intro K d;refine zF 149 (.tmp 41) (.tmp 38) rfl k.L 7 153 _ [ω s.rw.src,φ Q,ω s.rw.st,ό,ω Z,ω X] rfl rfl aT.o (by show 7+6<=16;decide) ξ X9 ?_;have aj:Hid (jt (λb=>b=k.L) ac (w5.setRow k.L (xQ (jQ k vo s).toList 7 [ω s.rw.src,φ Q,ω s.rw.st,ό,ω Z,ω X]).toArray)):=κ ((jt.of_more (S:=λb=>b=k.L) af.o).row (g:=k.L) rfl _);have aU:Hid ((w5.setRow k.L (xQ (jQ k vo s).toList 7 [ω s.rw.src,φ Q,ω s.rw.st,ό,ω Z,ω X]).toArray).heap[k.L]? =ϊ (.cells (jQ k vo {s with rw:=⟨s.rw.src,Q,s.rw.st,ό,Z,X⟩}) 153 (0,0))):=κ (qB (jY aT.o _) rfl);have aG:Hid ((w5.setRow k.L (xQ (jQ k vo s).toList 7 [ω s.rw.src,φ Q,ω s.rw.st,ό,ω Z,ω X]).toArray).heap[w2.heap.size+1]? =ϊ (.cells (Γh x.pk os J M ke O I) 63 (0,0))):=κ (qS bH.o _ bt);have bc:Hid ((w5.setRow k.L (xQ (jQ k vo s).toList 7 [ω s.rw.src,φ Q,ω s.rw.st,ό,ω Z,ω X]).toArray).heap[w2.heap.size]? =ϊ (.cells (Γk x os J M ke O I ad) 255 (0,0))):=κ (qS bJ.o _ ct);obtain⟨w6,cj⟩:=ν (w5.setRow k.L (xQ (jQ k vo s).toList 7 [ω s.rw.src,φ Q,ω s.rw.st,ό,ω Z,ω X]).toArray);rw[cj] at aj aU aG bc ⊢;clear cj aT bH bJ af;refine⟨qi aj.o, ?_⟩;go_simp;refine d _ _ ?_;clear d K
 iterate 1 (refine qE rfl rfl (qi aj.o) ?_;intro K d;go_big_quiet_op;go_big_quiet_on)
 refine zY rfl rfl ζ ?_;intro K d;refine zF 60 (.tmp 42) (.tmp 39) rfl (w2.heap.size+1) 0 63 _ [μ x.pk.mr,υ x.pk.ty,φ s.rw.sq,ω Z,ω s.rw.src] rfl rfl aG.o (by show 0+5<=10;decide) ξ X9 ?_;have ar:Hid (jt (λb=>b=k.L∨RgB k.R2 k.A2 b) w (w6.setRow (w2.heap.size+1) (xQ ((Γh x.pk os J M ke O I):Array Value).toList 0 [μ x.pk.mr,υ x.pk.ty,φ s.rw.sq,ω Z,ω s.rw.src]).toArray)):=κ ((((A2.o.mono λb H=>ϕ H).more aY.o).trans (aj.o.mono λb H=>ϑ H)).rowNew (by have:=A2.o.size;omega) _);have bD:Hid ((w6.setRow (w2.heap.size+1) (xQ ((Γh x.pk os J M ke O I):Array Value).toList 0 [μ x.pk.mr,υ x.pk.ty,φ s.rw.sq,ω Z,ω s.rw.src]).toArray).heap[k.L]? =ϊ (.cells (jQ k vo {s with rw:=⟨s.rw.src,Q,s.rw.st,ό,Z,X⟩}) 153 (0,0))):=κ (qS aU.o _ (λe=>bt e.symm));have bI:Hid ((w6.setRow (w2.heap.size+1) (xQ ((Γh x.pk os J M ke O I):Array Value).toList 0 [μ x.pk.mr,υ x.pk.ty,φ s.rw.sq,ω Z,ω s.rw.src]).toArray).heap[w2.heap.size+1]? =ϊ (.cells #[μ x.pk.mr,υ x.pk.ty,φ s.rw.sq,ω Z,ω s.rw.src,δ os x.pk.ss.length J,x.pk.has,φ x.pk.pr,δ M x.pk.ex.length ke,δ O x.pk.pl.length I] 63 (0,0))):=κ (qB (jY aG.o _) rfl);have bK:Hid ((w6.setRow (w2.heap.size+1) (xQ ((Γh x.pk os J M ke O I):Array Value).toList 0 [μ x.pk.mr,υ x.pk.ty,φ s.rw.sq,ω Z,ω s.rw.src]).toArray).heap[w2.heap.size]? =ϊ (.cells (Γk x os J M ke O I ad) 255 (0,0))):=κ (qS bc.o _ τ);have bF:Hid (qN 14 330 255 (w6.setRow (w2.heap.size+1) (xQ ((Γh x.pk os J M ke O I):Array Value).toList 0 [μ x.pk.mr,υ x.pk.ty,φ s.rw.sq,ω Z,ω s.rw.src]).toArray) k.R2 k.A2 s.room ((aM+1)%s.room) q bP cO bM bO _):=κ (((cz.o.more aY.o).away aj.o (by obtain⟨⟨ag,ao,ah,ai,_⟩,_⟩:=ae.o;exact C4 ah) (by obtain⟨⟨ag,ao,ah,ai,_⟩,_⟩:=ae.o;exact C4 ai)).away (EC _ _ _) (λe=>by have:=A2.o.size;omega) (λe=>by have:=A2.o.size;omega));obtain⟨W7,bY⟩:=ν (w6.setRow (w2.heap.size+1) (xQ ((Γh x.pk os J M ke O I):Array Value).toList 0 [μ x.pk.mr,υ x.pk.ty,φ s.rw.sq,ω Z,ω s.rw.src]).toArray);rw[bY] at ar bD bI bK bF ⊢;clear bY aj aU aG bc ba bb aS;refine⟨trivial, ?_⟩;go_simp;refine d _ _ ?_;clear d K;refine qA ?_;have cu:Hid (jt (lnE N k vo) w W7):=κ (ar.o.mono λb H=>kZ (by rcases H with e | e;exact ϑ e;exact ϕ (ϕ (ϑ e))))
 go_wp2_with (first | (refine yL (.load 63 (.tmp 7)) rfl ?_;refine vO rfl 63 (.tmp 7) rfl (w2.heap.size+1) 63 _ _ bI.o rfl underlying63 rfl ξ ?_) | (go_at_call 37;(go_call cC.o _ cu.o as e w8 ⟨⟨dA,rfl,aQ⟩,cq⟩;have aZ:=κ aQ;have aF:=κ cq;have cK:=κ (SlI.of_owns aQ (by have:=aW.o.1;omega));obtain⟨aI,aJ,rfl⟩:=VI aQ;clear aQ cq)))
 obtain⟨aN,aA,bQ,bh,bN,bg,bR,aO,a3⟩:=Y.o.r3;have bx:Hid (jt (λb=>b=k.L∨RgB k.R2 k.A2 b) w w8):=κ (ar.o.more aF.o);have bE:=κ (qq aF.o bD.o);have cL:=κ (qq aF.o bK.o);have cA:=κ (bF.o.more aF.o);have bz:=κ a3;have ch:aA.length=s.C.length:=a3.len;have ds:k.R3<w.heap.size:=qn aO.ring;have dn:k.A3<w.heap.size:=qn aO.row;have dH:w.heap.size<=w2.heap.size:=A2.o.size;have av:Hid (qN 2 332 56 w8 k.R3 k.A3 s.room aN aA bQ bh bN bg bR):=κ (aO.away bx.o (by obtain⟨⟨ag,ao,ah,ai,bi,bj⟩,⟨aw,aK,aL,bT,bU⟩,⟨aM,cQ,aN,cR⟩,⟨ck,cl,cm⟩,⟨cn,co⟩,_⟩:=ae.o;rintro(e | e | e)<;>omega) (by obtain⟨⟨ag,ao,ah,ai,bi,bj⟩,⟨aw,aK,aL,bT,bU⟩,⟨aM,cQ,aN,cR⟩,⟨ck,cl,cm⟩,⟨cn,co⟩,_⟩:=ae.o;rintro(e | e | e)<;>omega));obtain⟨aq,bu,bv,op,cd,cf⟩:=Pc w8 k.R3 k.A3 s.room aN aA bQ bh bN bg bR av.o (UJ a3) [ι x.id,δ aI body.length aJ] ⟨rfl,by simp[Value.oneCell']⟩;have aX:=κ cf;have cE:=κ cd;clear cf cd aO a3;generalize ca:decide (¬aA.length<s.room)=dr at aX;have cD:=κ ca;clear ca;have cr: ¬RgB k.R3 k.A3 k.L:=by
  obtain⟨⟨ag,ao,ah,ai,bi,bj⟩,_⟩:=ae.o;rintro(e | e)<;>omega
 have dd: ¬RgB k.R3 k.A3 w2.heap.size:=by rintro(e | e)<;>omega
 go_cut [10,11,12] from 48 (λdg dh di bw=> ∃C,dg= γ C/\dh= μ dr/\di= ι 0/\bw.heap[C]? =ϊ (.cells #[ι aq,δ bu bv op] 56 (0,0))/\jt (RgB k.R3 k.A3) w8 bw/\ ∃f' am ak an,qN 2 332 56 bw k.R3 k.A3 s.room f' (vE s.room aA [ι x.id,δ aI body.length aJ]) am bh ak bg an)
 case first=>
  have dj: ∀y:qz (RgB k.R3 k.A3) w8,y.w'.cell? ⟨k.L,3,ϋ⟩=ϊ (π (ϊ ⟨k.R3,0,ϋ⟩)):=λy=>qm (y.h.blk bE.o cr) 3 rfl
  have dk: ∀y:qz (RgB k.R3 k.A3) w8,y.w'.cell? ⟨w2.heap.size,0,ϋ⟩=ϊ (ι x.id):=λy=>qm (y.h.blk cL.o dd) 0 rfl
  refine wC (RgB k.R3 k.A3) w8 18 (.op 0 ύ (.op 1 ύ (.op 2 ύ (.op 3 ύ (.op 4 ύ (.op 5 ύ (.op 6 ύ (.op 7 ύ (.op 8 ύ (.br [9,14] λk=>if k=9 then .op 10 ύ (.op 11 ύ (.op 12 ύ (.op 13 ύ (.op 14 ό (.op 15 ό (.op 16 ύ (.op 17 ύ (.done)))))))) else .op 9 ό (.op 10 ύ (.op 11 ύ (.op 12 ύ (.op 13 ύ (.op 15 ό (.op 16 ύ (.op 17 ύ (.done)))))))))))))))))) ξ ξ ?_
  repeat (first | (refine jg rfl rfl (qi σ) ?_) | (refine qH rfl rfl (qi σ) ?_;intro K d;go_big_quiet_op;go_big_quiet_on))
  refine wP ζ ?_ ?_
  ·(refine qO rfl rfl ?_;intro K d;unfold jn;go_simp)
   go_call aX.o _ (av.o.more (ql.drewN w8 1)) as e w9 ⟨rfl,ab,a9⟩;have U:Hid (jt (RgB k.R3 k.A3) w8 w9):=κ (((jt.refl _ _).drewN 1).trans a9);have aV:=κ ab;clear a9 ab;refine⟨_,rfl,qi U.o,d _ _ ?_⟩;clear d K
   repeat (first | (refine jg rfl rfl (qi U.o) ?_) | (refine qH rfl rfl (qi U.o) ?_;intro K d;go_big_quiet_op;go_big_quiet_on))
   (refine qO rfl rfl ?_;intro K d;unfold jn;go_simp)
   refine⟨qi (U.o.alc _),d _ _ ?_⟩;clear d K
   (refine qO rfl rfl ?_;intro K d;unfold jn;go_simp)
   refine⟨qi (U.o.alc _),d _ _ ?_⟩;clear d K
   repeat (first | (refine jg rfl rfl (qi (U.o.alc _)) ?_) | (refine qH rfl rfl (qi (U.o.alc _)) ?_;intro K d;go_big_quiet_op;go_big_quiet_on))
   refine zg ?_;go_wp2;go_meet;obtain⟨f',am,ak,an,ab⟩:=aV.o;exact⟨_,rfl,rfl,rfl,qj w9 _,U.o.alc _,f',am,ak,an,ab.more X8⟩
  ·(refine qO rfl rfl ?_;intro K d;unfold jn;go_simp)
   refine⟨qi (((jt.refl _ w8).drewN 1).alc _),d _ _ ?_⟩;clear d K
   (refine qO rfl rfl ?_;intro K d;unfold jn;go_simp)
   go_call aX.o _ (av.o.more ((ql.drewN w8 1).al _)) as e w9 ⟨rfl,ab,a9⟩;have U:Hid (jt (RgB k.R3 k.A3) w8 w9):=κ ((((jt.refl _ _).drewN 1).alc _).trans a9);have aV:=κ ab;have dt:k.R3<w8.heap.size:=qn av.o.ring;have dp:k.A3<w8.heap.size:=qn av.o.row;have au:Hid (w9.heap[w8.heap.size]? =ϊ (.cells Γs 56 (0,0))):=κ (a9.blk (qC rfl) Y5);clear a9 ab;have dl:w9.cell? ⟨w8.heap.size,0,ϋ⟩=ϊ (ι 0):=qm au.o 0 rfl;have ag:w9.cell? ⟨w8.heap.size,1,ϋ⟩=ϊ (δ ϋ 0 0):=qm au.o 1 rfl;have e0:w9.frozen? ⟨w8.heap.size,0,ϋ⟩=ύ:=yw au.o 0;have aw:w9.frozen? ⟨w8.heap.size,1,ϋ⟩=ύ:=yw au.o 1;refine⟨_,rfl,qi U.o,d _ _ ?_⟩;clear d K
   repeat (first | (refine jg rfl rfl (qi U.o) ?_) | (refine qH rfl rfl (qi U.o) ?_;intro K d;go_big_quiet_op;go_big_quiet_on))
   (refine qO rfl rfl ?_;intro K d;unfold jn;go_simp)
   have aB:jt (RgB k.R3 k.A3) w8 ((w9.setCell ⟨w8.heap.size,0,ϋ⟩ (ι aq)).setCell ⟨w8.heap.size,1,ϋ⟩ (δ bu bv op)):=(U.o.setNew (ϔ _) _).setNew (ϔ _) _;have cv:jt (λb=>b=w8.heap.size) w9 ((w9.setCell ⟨w8.heap.size,0,ϋ⟩ (ι aq)).setCell ⟨w8.heap.size,1,ϋ⟩ (δ bu bv op)):=((jt.refl (λb=>b=w8.heap.size) w9).set (p:=⟨w8.heap.size,0,ϋ⟩) rfl _).set (p:=⟨w8.heap.size,1,ϋ⟩) rfl _;refine⟨qi aB,d _ _ ?_⟩;clear d K
   repeat (first | (refine jg rfl rfl (qi aB) ?_) | (refine qH rfl rfl (qi aB) ?_;intro K d;go_big_quiet_op;go_big_quiet_on))
   refine zg ?_;go_wp2;go_meet;obtain⟨f',am,ak,an,ab⟩:=aV.o;exact⟨_,rfl,rfl,rfl,qB (qp (qp au.o 0 _) 1 _) rfl,aB,f',am,ak,an,ab.away cv τ τ⟩
 case rest=>
 obtain⟨C,rfl,rfl,rfl,bS,bf,f',am,ak,an,bW⟩:=hcut;have aD:=κ bf;have cB:=κ bW;have cw:Hid (wc.heap[k.L]? =ϊ (.cells (jQ k vo {s with rw:=⟨s.rw.src,Q,s.rw.st,ό,Z,X⟩}) 153 (0,0))):=κ (bf.blk bE.o cr);have dF:wc.cell? ⟨C,0,ϋ⟩=ϊ (ι aq):=qm bS 0 rfl;clear bf bW bS;go_wp2;refine bodyPost_ret (v:= .tuple #[ι aq,dr,ό]) (by simp[results,results138,go_sem]) rfl ?_;obtain⟨⟨ag,ao,ah,ai,bi,bj⟩,⟨aw,aK,aL,bT,bU⟩,⟨du,dv,dw,dx⟩,⟨ck,cl,cm⟩,⟨cn,co⟩,_⟩:=ae.o;have bB:jt (λb=>b=k.L∨RgB k.R2 k.A2 b∨RgB k.R3 k.A3 b) w wc:=(bx.o.mono λb H=>by rcases H with e | e;exact ϑ e;exact ϕ (ϑ e)).trans (aD.o.mono λb H=>ϕ (ϕ H));have cc: ∀b,(b=k.L∨RgB k.R2 k.A2 b∨RgB k.R3 k.A3 b)->k.muts b:=λb H=>by rcases H with e | e | e;exact ϑ e;exact ϕ (ϕ (ϑ e));exact ϕ (ϕ (ϕ e))
 have aC:jt k.muts w wc:=bB.mono cc;have bA:jt (lnM k vo) w wc:=aC.mono λb H=>ϑ H
 have ap: ∀b,vo.ownBlock=ϊ b->vo.ownBlock=ϊ b∨w.heap.size<=b:=λb H=>ϑ H
 have cU: ∀b,(b=k.L∨RgB k.R2 k.A2 b∨RgB k.R3 k.A3 b)->lnE N k vo b:=λb H=>kZ (cc b H)
 have aa:=Y.o.ok;have cY:jw ROu (lnE (xf N w wc) k vo) wc [ι x.id,δ aI body.length aJ] (x.id,body):=λw'' a=>by
  refine⟨_,rfl, ?_,aW.o.2,aW.o.1⟩
  have db:SlI .u8 wc (δ aI body.length aJ) body:=cK.o.off (λb e H=>by
   have cS:=um aZ.o e;have cT:=ar.o.size
   rcases H with H | H<;>omega) aD.o
  refine Y.o.fresh (vo':=vo) db (λb e=>⟨Ϙ ar.o.size (um aZ.o e),ϗ (Vg aZ.o e) aD.o.size⟩) (λb e=>e) a
 have cg:=DY (R:=ROu) (D:=lnE (xf N w wc) k vo) (w:=wc) (room:=s.room) (bz.o.mono λc y bs=>Y.o.held bs bA ap) cY;have cZ:aq=df:=by rw[cE.o,ch,Pg bz.o];exact cH.o
 have da:dr=de:=by rw[<-cD.o,ch];exact cG.o
 rw[cF.o] at cg;rw[<-cZ,<-da];refine⟨rfl,Y.o.make aC.size cw.o (Y.o.r1.step bB (by rintro(e | (e | e) | (e | e))<;>omega) (by rintro(e | (e | e) | (e | e))<;>omega) cU λb H=>ϑ (xE Y.o.own ap H)) ⟨_,_,_,_,_,_,_,cA.o.away aD.o Y5 Y5,AQ.o.mono λc y bs=>Y.o.held bs bA ap⟩ ⟨_,_,_,_,_,_,_,cB.o,cg⟩ (Y.o.rows aC) ⟨aa.most,aa.row,aa.lt,cV,aa.src⟩,aC.mono λb H=>Y.o.muts b H⟩
def Uu (h:LnX N w k vo s):Calls prog 138 #[γ k.L] w λe w'=>e= .returned (.tuple #[ι (qY s).2.1,μ (qY s).2.2.1,μ (qY s).2.2.2])/\LnX (xf N w w') w' k vo (qY s).1/\jt N w w':=by
 cases hB:s.B with
 | nil=>
  have e:qY s=(s,0,ύ,ύ):=by unfold qY;rw[hB]
  rw[e];refine(Zj h (by show decide (0<s.B.length)=ύ;rw[hB];rfl)).mono ?_;rintro e w' ⟨rfl,m⟩;exact⟨rfl,h.grow m,jt.of_more m⟩
 | cons y T=>
  obtain⟨x,d⟩:=y;have e:qY s=((NJ {s with B:=T,rw:=ul s.rw x.pk d} (x.id,pkB (kY s.rw x.pk d))).1,(NJ {s with B:=T,rw:=ul s.rw x.pk d} (x.id,pkB (kY s.rw x.pk d))).2.1,(NJ {s with B:=T,rw:=ul s.rw x.pk d} (x.id,pkB (kY s.rw x.pk d))).2.2,ό):=by unfold qY;rw[hB]
  rw[e];have H:=XQ h x d T hB (shL s.rw x.pk.st d) ((x.pk.st+shL s.rw x.pk.st d)%4294967296) ((s.rw.sq+1)%65536) rfl rfl rfl;by_cases hc:s.C.length<s.room
  ·have I:NJ {s with B:=T,rw:=ul s.rw x.pk d} (x.id,pkB (kY s.rw x.pk d))=({s with B:=T,rw:=ul s.rw x.pk d,C:=s.C++[(x.id,pkB (kY s.rw x.pk d))]},0,ύ):=by unfold NJ;rw[ϐ hc]
   rw[I];simp only[hc,A7,not_true,decide_false] at H;exact H
  ·have I:NJ {s with B:=T,rw:=ul s.rw x.pk d} (x.id,pkB (kY s.rw x.pk d))=({s with B:=T,rw:=ul s.rw x.pk d,C:=s.C.tail++[(x.id,pkB (kY s.rw x.pk d))]},(s.C.head?.map (·.1)).getD 0,ό):=by unfold NJ;rw[ώ hc]
   rw[I];simp only[hc,C2,not_false_iff,decide_true] at H;exact H
theorem xN {rest:List Oper} {op:Oper} (U:Region.wanted op (yielded ops a.tmps)=ό) (d:TypeId) (x:Operand) (N:op.op= .load d x)
  (b o:Nat) (Y:a.eval x= π (ϊ ⟨b,o,ϋ⟩)) (cs:List Value) (H:TypeDesc) (J:w.rangeAt b o cs)
  (O:P.underlying d=ϊ H) (M:H.isRow=ό) (hi:(P.info? d).map (·.size)=ϊ cs.length)
  (h:wpList P ops Q rest (a.put op.dst (θ cs.toArray)) w):wpList P ops Q (op::rest) a w:=
 wpList_step λK I=>by
  rw[ϐ U];exact wp_load_mid d x N b o Y cs H J O M hi (I _ _ h)
def ku {b t:Nat} {a0 d H:Value} {cs:List Value} (h:w.heap[b]? =ϊ (.cells (a0::d::H::cs).toArray t (0,0))):w.rangeAt b 3 cs:=λj v I=>by
 rw[cell_of_row w b (3+j) _ t (0,0) h,A4,show 3+j=j+1+1+1 by omega]
 simpa using I
def Km (a:zb (jw RIt D w) q l): ∀c∈q,∃(y:ItS) (H I M:Option Addr) (an d bn J cn N:Nat),c=[ι y.id,ι y.layer,y.key,y.pk.mr,υ y.pk.ty,φ y.pk.sq,ω y.pk.st,ω y.pk.sc,δ H an d,y.pk.has,φ y.pk.pr,δ I bn J,δ M cn N]:=λc O=>by
 obtain⟨y,_,U⟩:=a.mem c O;obtain⟨aa,Y,vp,rfl,⟨⟨H,d,rfl,_⟩,⟨I,J,rfl,_⟩,⟨M,N,rfl,_⟩⟩,_⟩:=U.read;exact⟨y,H,I,M,_,d,_,J,_,N,rfl⟩
def UQ (a:zb (jw RIt D w) q l):(q.head?.map idN).getD 0=(l.head?.map (·.id)).getD 0:=by
 cases l with
 | nil=>rw[a.nil_r];rfl
 | cons o l=>
  obtain⟨c,q',rfl,d,_⟩:=a.uncons;obtain⟨I,H,vp,rfl,_⟩:=d.read;rfl
def Pd (am:World) (R A room f:Nat) (q:List (List Value)) (ad ab ac O:Int) (css:List (List Value)) (ai:qN 13 327 253 am R A room f q ad ab ac O css)
  (al: ∀c∈q,∃(y:ItS) (I J U:Option Addr) (H d N M aa Y:Nat),c=[ι y.id,ι y.layer,y.key,y.pk.mr,υ y.pk.ty,φ y.pk.sq,ω y.pk.st,ω y.pk.sc,δ I H d,y.pk.has,φ y.pk.pr,δ J N M,δ U aa Y]) (x:List Value) (ak:x.length=13/\ ∀u∈x,u.oneCell'=ό):
  ∃(y:ItS) (I J U:Option Addr) (H d N M aa Y:Nat),(y.id=if q.length<room then 0 else (q.head?.map idN).getD 0)/\
  ∀w,qN 13 327 253 w R A room f q ad ab ac O css->Calls prog 196 #[γ R,θ x.toArray] w λe w'=>e= .returned (.tuple #[θ #[ι y.id,ι y.layer,y.key,y.pk.mr,υ y.pk.ty,φ y.pk.sq,ω y.pk.st,ω y.pk.sc,δ I H d,y.pk.has,φ y.pk.pr,δ J N M,δ U aa Y],(decide (¬q.length<room)),ι 0])/\
   (∃f' ae ah css',qN 13 327 253 w' R A room f' (vE room q x) ae ab ah O css')/\jt (RgB R A) w w':=by
 by_cases hq:q.length<room
 ·refine⟨⟨0,0,ύ,pk0⟩,ϋ,ϋ,ϋ,0,0,0,0,0,0,by rw[ϐ hq],λw h=> ?_⟩;have af:decide (¬q.length<room)=ύ:=by simp[hq]
  have ag:vE room q x=q++[x]:=by unfold vE;rw[ϐ hq]
  rw[af,ag];refine(UF w R A room f q ad ab ac O css h hq x ak).mono ?_;rintro e w' ⟨rfl,⟨ae,g⟩,a⟩;exact⟨rfl,⟨_,_,_,_,g⟩,a⟩
 ·have an:=ai.fits;have ao:=ai.pos;cases q with
  | nil=>simp at hq;omega
  | cons c T=>
   obtain⟨y,I,J,U,H,d,N,M,aa,Y,aj⟩:=al c η;refine⟨y,I,J,U,H,d,N,M,aa,Y,by rw[ώ hq,aj];rfl,λw h=> ?_⟩;have af:decide (¬(c::T).length<room)=ό:=by simpa using hq
   have ag:vE room (c::T) x=T++[x]:=by unfold vE;rw[ώ hq];rfl
   rw[af,ag];refine(UG w R A room f c T ad ab ac O css h τ x ak).mono ?_;rintro e w' ⟨rfl,⟨ae,ah,g⟩,a⟩;exact⟨by rw[aj],⟨_,_,_,_,g⟩,a⟩
def Qt (h:LnX N w k vo s) (x:ItS) (os J M:Option Addr) (H ke d:Nat) (aj:PkS w (δ os x.pk.ss.length H) (δ J x.pk.ex.length ke) (δ M x.pk.pl.length d) x.pk) (ak:uj x.pk) (n:Int)
  (ao:(jj x.layer=ύ/\n=1)∨(jj x.layer=ό/\jJ x.pk=ύ/\n=1)∨(jj x.layer=ό/\jJ x.pk=ό/\s.gone=ό/\n=7)∨(jj x.layer=ό/\jJ x.pk=ό/\s.gone=ύ/\s.wanted=ύ/\n=5)):
  Calls prog 136 #[γ k.L,(Γj x os H J ke M d)] w λe w'=>e= .returned (.tuple #[ι 0,ύ,ι n])/\ql w w':=by
 have aa:Hid (∀w',ql w w'->Calls prog 92 #[(Γh x.pk os H J ke M d)] w' λe w''=>e= .returned (μ (jJ x.pk))/\ql w' w''):=κ λw' m=>gc x.pk _ _ _ w' (aj.keep m) ak
 have ae:=κ λ(w':World) (m:ql w w')=>gF (h.on m)
 have am:=κ h;clear h aj ak;rcases ao with ⟨O,rfl⟩ | ⟨O,Y,rfl⟩ | ⟨O,Y,ac,rfl⟩ | ⟨O,Y,ac,al,rfl⟩
 ·have ab:=κ O;clear O
  go_enter func136,ntmps136
  go_wp2_with (first | (go_at_call 151;(go_call xX x.layer _ as e w1 ⟨rfl,ai⟩;subst w1;rw[ab.o])) | (refine yL (.load 63 (.tmp 15)) rfl ?_;refine xN rfl 63 (.tmp 15) rfl w.heap.size 3 rfl (Γh x.pk os H J ke M d) _ (ku (qj w (.cells (Γj x os H J ke M d) 253))) underlying63 rfl ξ ?_) | (go_at_call 92;(go_call aa.o _ X8 as e w2 ⟨rfl,I⟩;have U:Hid (ql w w2):=κ (X8.trans I);have ah:=κ (qq I (qj w (.cells (Γj x os H J ke M d) 253)));clear I)))
  refine bodyPost_ret (v:= .tuple #[ι 0,ύ,ι 1]) (by simp[results,results136,go_sem]) rfl ?_;exact⟨rfl,ρ⟩
 ·have ab:=κ O;rw[Y] at aa;clear O Y
  go_enter func136,ntmps136
  go_wp2_with (first | (go_at_call 151;(go_call xX x.layer _ as e w1 ⟨rfl,ai⟩;subst w1;rw[ab.o])) | (refine yL (.load 63 (.tmp 15)) rfl ?_;refine xN rfl 63 (.tmp 15) rfl w.heap.size 3 rfl (Γh x.pk os H J ke M d) _ (ku (qj w (.cells (Γj x os H J ke M d) 253))) underlying63 rfl ξ ?_) | (go_at_call 92;(go_call aa.o _ X8 as e w2 ⟨rfl,I⟩;have U:Hid (ql w w2):=κ (X8.trans I);have ah:=κ (qq I (qj w (.cells (Γj x os H J ke M d) 253)));clear I)))
  refine bodyPost_ret (v:= .tuple #[ι 0,ύ,ι 1]) (by simp[results,results136,go_sem]) rfl ?_;exact⟨rfl,U.o⟩
 ·have ab:=κ O;rw[Y] at aa;rw[ac] at ae;clear O Y ac
  go_enter func136,ntmps136
  go_wp2_with (first | (go_at_call 151;(go_call xX x.layer _ as e w1 ⟨rfl,ai⟩;subst w1;rw[ab.o])) | (refine yL (.load 63 (.tmp 15)) rfl ?_;refine xN rfl 63 (.tmp 15) rfl w.heap.size 3 rfl (Γh x.pk os H J ke M d) _ (ku (qj w (.cells (Γj x os H J ke M d) 253))) underlying63 rfl ξ ?_) | (go_at_call 92;(go_call aa.o _ X8 as e w2 ⟨rfl,I⟩;have U:Hid (ql w w2):=κ (X8.trans I);have ah:=κ (qq I (qj w (.cells (Γj x os H J ke M d) 253)));clear I)) | (go_at_call 69;(go_call ae.o _ U.o as e ag ⟨rfl,ad⟩;have af:Hid (ql w ag):=κ (U.o.trans ad);clear ad)))
  refine bodyPost_ret (v:= .tuple #[ι 0,ύ,ι 7]) (by simp[results,results136,go_sem]) rfl ?_;exact⟨rfl,af.o⟩
 ·have ab:=κ O;rw[Y] at aa;rw[ac] at ae;have an:=κ al;clear O Y ac al
  go_enter func136,ntmps136
  go_wp2_with (first | (go_at_call 151;(go_call xX x.layer _ as e w1 ⟨rfl,ai⟩;subst w1;rw[ab.o])) | (refine yL (.load 63 (.tmp 15)) rfl ?_;refine xN rfl 63 (.tmp 15) rfl w.heap.size 3 rfl (Γh x.pk os H J ke M d) _ (ku (qj w (.cells (Γj x os H J ke M d) 253))) underlying63 rfl ξ ?_) | (go_at_call 92;(go_call aa.o _ X8 as e w2 ⟨rfl,I⟩;have U:Hid (ql w w2):=κ (X8.trans I);have ah:=κ (qq I (qj w (.cells (Γj x os H J ke M d) 253)));clear I)) | (go_at_call 69;(go_call ae.o _ U.o as e ag ⟨rfl,ad⟩;have af:Hid (ql w ag):=κ (U.o.trans ad);clear ad;have c4:ag.cell? ⟨k.L,4,ϋ⟩=ϊ (μ ύ):=(by rw[<-an.o];exact qm (qq af.o am.o.blk) 4 rfl))))
  refine bodyPost_ret (v:= .tuple #[ι 0,ύ,ι 5]) (by simp[results,results136,go_sem]) rfl ?_;exact⟨rfl,af.o⟩
def Uy (h:LnX N w k vo s) (x:ItS) (os ac Y:Option Addr) (ah ke O:Nat) (bd:PkS w (δ os x.pk.ss.length ah) (δ ac x.pk.ex.length ke) (δ Y x.pk.pl.length O) x.pk) (ag:uf x.pk) (bi:uj x.pk)
  (bP:jj x.layer=ό) (be:jJ x.pk=ό) (bJ:s.gone=ύ) (bQ:s.wanted=ό):
  Calls prog 136 #[γ k.L,(Γj x os ah ac ke Y O)] w λe w'=>e= .returned (.tuple #[ι (if s.A.length<s.room then 0 else (s.A.head?.map (·.id)).getD 0),(decide (¬s.A.length<s.room)),ι 0])/\
   LnX (xf N w w') w' k vo {s with A:=if s.A.length<s.room then s.A++[x] else s.A.tail++[x]}/\jt N w w':=by
 have cc:Hid (∀w',ql w w'->Calls prog 92 #[(Γh x.pk os ah ac ke Y O)] w' λe w''=>e= .returned (μ ό)/\ql w' w''):=κ λw' m=>by have:=gc x.pk _ _ _ w' (bd.keep m) bi;rw[be] at this;exact this
 have bW:Hid (∀(w':World),ql w w'->Calls prog 69 #[γ k.L] w' λe w''=>e= .returned (μ ύ)/\ql w' w''):=κ λw' m=>by have:=gF (h.on m);rw[bJ] at this;exact this
 have ce:=κ bP;have bZ:=κ be;have cf:=κ bQ;have J:=κ h;have aI:=κ bd;have ai:=κ bi;have bX:=κ ag;have bw:=κ h.dist;obtain⟨cF,bh⟩:=ν ((if s.A.length<s.room then 0 else (s.A.head?.map (·.id)).getD 0));obtain⟨cE,bg⟩:=ν (decide (¬s.A.length<s.room));obtain⟨dk,bf⟩:=ν ((if s.A.length<s.room then s.A++[x] else s.A.tail++[x]));rw[bh,bg,bf];have cd:=κ bh;have cb:=κ bg;have ca:=κ bf;clear bh bg bf h bd bi ag bP be bJ bQ
 go_enter func136,ntmps136
 go_wp2_with (first | (go_at_call 151;(go_call xX x.layer _ as e w1 ⟨rfl,cw⟩;subst w1;rw[ce.o])) | (refine yL (.load 63 (.tmp 15)) rfl ?_;refine xN rfl 63 (.tmp 15) rfl w.heap.size 3 rfl (Γh x.pk os ah ac ke Y O) _ (ku (qj w (.cells (Γj x os ah ac ke Y O) 253))) underlying63 rfl ξ ?_) | (go_at_call 92;(go_call cc.o _ X8 as e w2 ⟨rfl,bl⟩;have bx:Hid (ql w w2):=κ (X8.trans bl);have ck:=κ (qq bl (qj w (.cells (Γj x os ah ac ke Y O) 253)));clear bl)) | (go_at_call 69;(go_call bW.o _ bx.o as e ax ⟨rfl,bm⟩;have aK:Hid (ql w ax):=κ (bx.o.trans bm);have aQ:=κ (qq bm ck.o);clear bm;have c4:ax.cell? ⟨k.L,4,ϋ⟩=ϊ (μ ό):=(by rw[<-cf.o];exact qm (qq aK.o J.o.blk) 4 rfl);have cL:ax.cell? ⟨w.heap.size,8,ϋ⟩=ϊ (δ os x.pk.ss.length ah):=qm aQ.o 8 rfl)) | (go_at_call 49;(go_call Ad _ x.pk.ss ax (aI.o.s.keep aK.o) ai.o.s as e w4 ⟨⟨v4,rfl,bo⟩,bn⟩;have ap:=κ bo;have bz:Hid (ql w w4):=κ (aK.o.trans bn);have au:=κ (qq bn aQ.o);obtain⟨aa,U,rfl⟩:=zA bo;clear bo bn;have cL:w4.cell? ⟨w.heap.size,8,ϋ⟩=ϊ (δ os x.pk.ss.length ah):=qm au.o 8 rfl;have dq:w4.frozen? ⟨w.heap.size,8,ϋ⟩=ύ:=yw au.o 8;have cJ:w4.cell? ⟨w.heap.size,11,ϋ⟩=ϊ (δ ac x.pk.ex.length ke):=qm au.o 11 rfl)) | (go_at_call 50;((with_reducible refine(wQ (δ ac x.pk.ex.length ke) x.pk.ex (w4.setCell ⟨w.heap.size,8,ϋ⟩ (δ aa x.pk.ss.length U)) (aI.o.e.keep (bz.o.st (ϔ _) _)) ai.o.e).mono ?_);rintro e w5 ⟨⟨v5,rfl,bp⟩,aD⟩;have aq:=κ bp;have bA:Hid (ql w w5):=κ ((bz.o.st (ϔ _) _).trans aD);have bB:Hid (jt (λb=>b=w.heap.size) w4 w5):=κ (((jt.refl (λb=>b=w.heap.size) w4).set (p:=⟨w.heap.size,8,ϋ⟩) rfl _).more aD);have av:Hid (w5.heap[w.heap.size]? =ϊ (.cells (Γj x aa U ac ke Y O) 253 (0,0))):=κ (qq aD (qB (qp au.o 8 _) rfl));obtain⟨ad,ab,rfl⟩:=zA bp;clear bp aD;have cJ:w5.cell? ⟨w.heap.size,11,ϋ⟩=ϊ (δ ac x.pk.ex.length ke):=qm av.o 11 rfl;have dn:w5.frozen? ⟨w.heap.size,11,ϋ⟩=ύ:=yw av.o 11;have cK:w5.cell? ⟨w.heap.size,12,ϋ⟩=ϊ (δ Y x.pk.pl.length O):=qm av.o 12 rfl)) | (go_at_call 50;((with_reducible refine(wQ (δ Y x.pk.pl.length O) x.pk.pl (w5.setCell ⟨w.heap.size,11,ϋ⟩ (δ ad x.pk.ex.length ab)) (aI.o.l.keep (bA.o.st (ϔ _) _)) ai.o.l).mono ?_);rintro e w6 ⟨⟨dl,rfl,bq⟩,aE⟩;have ar:=κ bq;have ch:Hid (ql w w6):=κ ((bA.o.st (ϔ _) _).trans aE);have aM:Hid (jt (λb=>b=w.heap.size) w5 w6):=κ (((jt.refl (λb=>b=w.heap.size) w5).set (p:=⟨w.heap.size,11,ϋ⟩) rfl _).more aE);have aR:Hid (w6.heap[w.heap.size]? =ϊ (.cells (Γj x aa U ad ab Y O) 253 (0,0))):=κ (qq aE (qB (qp av.o 11 _) rfl));obtain⟨af,ae,rfl⟩:=zA bq;clear bq aE;have cK:w6.cell? ⟨w.heap.size,12,ϋ⟩=ϊ (δ Y x.pk.pl.length O):=qm aR.o 12 rfl;have dp:w6.frozen? ⟨w.heap.size,12,ϋ⟩=ύ:=yw aR.o 12)))
 obtain⟨W7,aw⟩:=ν (w6.setCell ⟨w.heap.size,12,ϋ⟩ (δ af x.pk.pl.length ae));have az:Hid (jt (λb=>b=w.heap.size) w6 W7):=κ (by rw[<-aw];exact(jt.refl (λb=>b=w.heap.size) w6).set (p:=⟨w.heap.size,12,ϋ⟩) rfl _);have aL:Hid (ql w W7):=κ (by rw[<-aw];exact ch.o.st (ϔ _) _);have cl:Hid (W7.heap[w.heap.size]? =ϊ (.cells (Γj x aa U ad ab af ae) 253 (0,0))):=κ (by rw[<-aw];exact qB (qp aR.o 12 _) rfl);rw[aw];clear aw;have bu:=κ (qq aL.o J.o.blk);have dh:w.heap.size<ax.heap.size:=qn aQ.o;have di:w.heap.size<w4.heap.size:=qn au.o;have dj:w.heap.size<w5.heap.size:=qn av.o;have de:w4.heap.size<=w5.heap.size:=bB.o.size;have df:w5.heap.size<=w6.heap.size:=aM.o.size;have dg:w6.heap.size<=W7.heap.size:=az.o.size;have ci:Hid (SlI .u32 W7 (δ aa x.pk.ss.length U) x.pk.ss):=κ ((SlI.of_owns ap.o (by have:=ai.o.s;omega)).off (λb e I=>by have:=um ap.o e;omega) ((bB.o.trans aM.o).trans az.o));have cj:Hid (SlI .u8 W7 (δ ad x.pk.ex.length ab) x.pk.ex):=κ ((SlI.of_owns aq.o (by have:=ai.o.e;omega)).off (λb e I=>by have:=um aq.o e;simp at this;omega) (aM.o.trans az.o));have S6:Hid (SlI .u8 W7 (δ af x.pk.pl.length ae) x.pk.pl):=κ ((SlI.of_owns ar.o (by have:=ai.o.l;omega)).off (λb e I=>by have:=um ar.o e;simp at this;omega) az.o);have aN:Hid (∀b,(δ aa x.pk.ss.length U).ownBlock=ϊ b->w.heap.size<=b/\b<W7.heap.size):=κ λb e=>by
  have aC:=um ap.o e;have bG:=Vg ap.o e;omega
 have aO:Hid (∀b,(δ ad x.pk.ex.length ab).ownBlock=ϊ b->w.heap.size<=b/\b<W7.heap.size):=κ λb e=>by
  have aC:=um aq.o e;have bG:=Vg aq.o e;simp at aC;omega
 have aP:Hid (∀b,(δ af x.pk.pl.length ae).ownBlock=ϊ b->w.heap.size<=b/\b<W7.heap.size):=κ λb e=>by
  have aC:=um ar.o e;have bG:=Vg ar.o e;simp at aC;omega
 clear ap aq ar;obtain⟨cx,aF,cn,bD,cm,bC,co,aB,aA⟩:=J.o.r1;have bt:=κ aA;have bO:aF.length=s.A.length:=aA.len;have cT:k.R1<w.heap.size:=qn aB.ring;have cR:k.A1<w.heap.size:=qn aB.row;have ao:=κ (aB.more aL.o);obtain⟨y,aU,aW,aZ,aT,aS,aY,aX,bb,ba,bL,bM⟩:=Pd W7 k.R1 k.A1 s.room cx aF cn bD cm bC co ao.o (Km aA) (Γj x aa U ad ab af ae) ⟨rfl,by simp[Value.oneCell']⟩;have aJ:=κ bM;have bY:=κ bL;clear bM bL aB aA;generalize bI:decide (¬aF.length<s.room)=dr at aJ;have bV:=κ bI;clear bI;have bR: ¬RgB k.R1 k.A1 k.L:=by
  obtain⟨⟨cp,cq,cr,ct,cu,cv⟩,_⟩:=bw.o;rintro(e | e)<;>omega
 have cD: ¬RgB k.R1 k.A1 w.heap.size:=by rintro(e | e)<;>omega
 go_cut [7,8,9] from 45 (λcG cH cI bs=> ∃C,cG= γ C/\cH= μ dr/\cI= ι 0/\bs.heap[C]? =ϊ (.cells #[ι y.id,ι y.layer,y.key,y.pk.mr,υ y.pk.ty,φ y.pk.sq,ω y.pk.st,ω y.pk.sc,δ aU aT aS,y.pk.has,φ y.pk.pr,δ aW aY aX,δ aZ bb ba] 253 (0,0))/\jt (RgB k.R1 k.A1) W7 bs/\ ∃f' ak aj am,qN 13 327 253 bs k.R1 k.A1 s.room f' (vE s.room aF (Γj x aa U ad ab af ae)) ak bD aj bC am)
 case first=>
  have cM: ∀z:qz (RgB k.R1 k.A1) W7,z.w'.cell? ⟨k.L,1,ϋ⟩=ϊ (π (ϊ ⟨k.R1,0,ϋ⟩)):=λz=>qm (z.h.blk bu.o bR) 1 rfl
  have cg: ∀z:qz (RgB k.R1 k.A1) W7,z.w'.rangeAt w.heap.size 0 (Γj x aa U ad ab af ae):=λz=>xy (z.h.blk cl.o cD)
  refine wC (RgB k.R1 k.A1) W7 14 (.op 0 ύ (.op 1 ύ (.op 2 ύ (.op 3 ύ (.op 4 ύ (.br [5,10] λk=>if k=5 then .op 6 ύ (.op 7 ύ (.op 8 ύ (.op 9 ύ (.op 10 ό (.op 11 ό (.op 12 ύ (.op 13 ύ (.done)))))))) else .op 5 ό (.op 6 ύ (.op 7 ύ (.op 8 ύ (.op 9 ύ (.op 11 ό (.op 12 ύ (.op 13 ύ (.done)))))))))))))) ξ ξ ?_
  iterate 4 (refine qH rfl rfl (qi σ) ?_;intro K d;go_big_quiet_op;go_big_quiet_on)
  refine QU rfl rfl (qi σ) 253 (.tmp 3) rfl w.heap.size 0 rfl (Γj x aa U ad ab af ae) _ (λw' cB=>by obtain⟨z,rfl⟩:=cB;exact cg z) underlying253 rfl ξ ?_;intro K d;go_simp;refine d _ ?_;clear d K;refine wP ζ ?_ ?_
  ·(refine qO rfl rfl ?_;intro K d;unfold jn;go_simp)
   go_call aJ.o _ (ao.o.more (ql.drewN W7 1)) as e w9 ⟨rfl,M,a9⟩;have H:Hid (jt (RgB k.R1 k.A1) W7 w9):=κ (((jt.refl _ _).drewN 1).trans a9);have aH:=κ M;clear a9 M;refine⟨_,rfl,qi H.o,d _ _ ?_⟩;clear d K
   repeat (first | (refine jg rfl rfl (qi H.o) ?_) | (refine qH rfl rfl (qi H.o) ?_;intro K d;go_big_quiet_op;go_big_quiet_on))
   (refine qO rfl rfl ?_;intro K d;unfold jn;go_simp)
   refine⟨qi (H.o.alc _),d _ _ ?_⟩;clear d K;refine qO rfl rfl ?_;intro K d;refine jr 253 (.tmp 7) (.tmp 52) rfl w9.heap.size 253 _ #[ι y.id,ι y.layer,y.key,y.pk.mr,υ y.pk.ty,φ y.pk.sq,ω y.pk.st,ω y.pk.sc,δ aU aT aS,y.pk.has,φ y.pk.pr,δ aW aY aX,δ aZ bb ba] rfl rfl (qj w9 _) ξ rfl (all_oneCell_toArray X9) ?_;refine⟨qi ((H.o.alc _).rowNew H.o.size _), ?_⟩;go_simp;refine d _ _ ?_;clear d K
   repeat (first | (refine jg rfl rfl (qi ((H.o.alc _).rowNew H.o.size _)) ?_) | (refine qH rfl rfl (qi ((H.o.alc _).rowNew H.o.size _)) ?_;intro K d;go_big_quiet_op;go_big_quiet_on))
   refine zg ?_;go_wp2;go_meet;obtain⟨f',ak,aj,am,M⟩:=aH.o;refine⟨_,rfl,rfl,rfl,jY (qj w9 _) _,(H.o.alc _).rowNew H.o.size _,f',ak,aj,am,(M.more X8).away (EC _ _ _) ?_ ?_⟩
   ·have:=qn M.ring;omega
   ·have:=qn M.row;omega
  ·(refine qO rfl rfl ?_;intro K d;unfold jn;go_simp)
   refine⟨qi (((jt.refl _ W7).drewN 1).alc _),d _ _ ?_⟩;clear d K
   (refine qO rfl rfl ?_;intro K d;unfold jn;go_simp)
   go_call aJ.o _ (ao.o.more ((ql.drewN W7 1).al _)) as e w9 ⟨rfl,M,a9⟩;have H:Hid (jt (RgB k.R1 k.A1) W7 w9):=κ ((((jt.refl _ _).drewN 1).alc _).trans a9);have aH:=κ M;have cU:k.R1<W7.heap.size:=qn ao.o.ring;have cS:k.A1<W7.heap.size:=qn ao.o.row;have bv:Hid (w9.heap[W7.heap.size]? =ϊ (.cells Γa 253 (0,0))):=κ (a9.blk (qC rfl) Y5);clear a9 M;refine⟨_,rfl,qi H.o,d _ _ ?_⟩;clear d K
   repeat (first | (refine jg rfl rfl (qi H.o) ?_) | (refine qH rfl rfl (qi H.o) ?_;intro K d;go_big_quiet_op;go_big_quiet_on))
   refine qO rfl rfl ?_;intro K d;refine jr 253 (.tmp 7) (.tmp 52) rfl W7.heap.size 253 _ #[ι y.id,ι y.layer,y.key,y.pk.mr,υ y.pk.ty,φ y.pk.sq,ω y.pk.st,ω y.pk.sc,δ aU aT aS,y.pk.has,φ y.pk.pr,δ aW aY aX,δ aZ bb ba] rfl rfl bv.o ξ rfl (all_oneCell_toArray X9) ?_;refine⟨qi (H.o.rowNew (ϔ _) _), ?_⟩;go_simp;refine d _ _ ?_;clear d K
   repeat (first | (refine jg rfl rfl (qi (H.o.rowNew (ϔ _) _)) ?_) | (refine qH rfl rfl (qi (H.o.rowNew (ϔ _) _)) ?_;intro K d;go_big_quiet_op;go_big_quiet_on))
   refine zg ?_;go_wp2;go_meet;obtain⟨f',ak,aj,am,M⟩:=aH.o;exact⟨_,rfl,rfl,rfl,jY bv.o _,H.o.rowNew (ϔ _) _,f',ak,aj,am,M.away (EC _ _ _) τ τ⟩
 case rest=>
 obtain⟨C,rfl,rfl,rfl,bE,aV,f',ak,aj,am,bF⟩:=hcut;have an:=κ aV;have bU:=κ bF;have bT:Hid (wc.heap[k.L]? =ϊ (.cells (jQ k vo s) 153 (0,0))):=κ (aV.blk bu.o bR);have dm:wc.cell? ⟨C,0,ϋ⟩=ϊ (ι y.id):=qm bE 0 rfl;clear aV bF bE;go_wp2;refine bodyPost_ret (v:= .tuple #[ι y.id,dr,ι 0]) (by simp[results,results136,go_sem]) rfl ?_;obtain⟨⟨cp,cq,cr,ct,cu,cv⟩,⟨cw,cN,cO,cP,cQ⟩,⟨cV,cW,cX,cY⟩,⟨cZ,da,db⟩,⟨dc,dd⟩,_⟩:=bw.o;have aG:jt (RgB k.R1 k.A1) w wc:=(jt.of_more aL.o).trans an.o;have bK: ∀b,RgB k.R1 k.A1 b->k.muts b:=λb I=>ϕ (ϑ I)
 have ay:jt k.muts w wc:=aG.mono bK;have bS:jt (lnM k vo) w wc:=ay.mono λb I=>ϑ I
 have bj: ∀b,vo.ownBlock=ϊ b->vo.ownBlock=ϊ b∨w.heap.size<=b:=λb I=>ϑ I
 have bH: ∀b,RgB k.R1 k.A1 b->lnE N k vo b:=λb I=>kZ (bK b I)
 have ag:=J.o.ok;have bk:W7.heap.size<=wc.heap.size:=an.o.size;have bc: ∀b,w.heap.size<=b-> ¬RgB k.R1 k.A1 b:=λb I e=>by rcases e with e | e<;>omega
 have cy:jw RIt (lnE (xf N w wc) k vo) wc (Γj x aa U ad ab af ae) x:=λw'' a=>by
  refine⟨_,_,_,rfl,⟨?_, ?_, ?_⟩,bX.o,bZ.o⟩
  ·exact J.o.fresh (vo':=vo) (ci.o.off (λb e=>bc b (aN.o b e).1) an.o) (λb e=>⟨(aN.o b e).1,ϗ (aN.o b e).2 bk⟩) (λb e=>e) a
  ·exact J.o.fresh (vo':=vo) (cj.o.off (λb e=>bc b (aO.o b e).1) an.o) (λb e=>⟨(aO.o b e).1,ϗ (aO.o b e).2 bk⟩) (λb e=>e) a
  ·exact J.o.fresh (vo':=vo) (S6.o.off (λb e=>bc b (aP.o b e).1) an.o) (λb e=>⟨(aP.o b e).1,ϗ (aP.o b e).2 bk⟩) (λb e=>e) a
 have bN:=DY (R:=RIt) (D:=lnE (xf N w wc) k vo) (w:=wc) (room:=s.room) (bt.o.mono λc y cC=>J.o.held cC bS bj) cy;have cz:y.id=cF:=by rw[bY.o,bO,UQ bt.o];exact cd.o
 have cA:dr=cE:=by rw[<-bV.o,bO];exact cb.o
 rw[ca.o] at bN;rw[<-cz,<-cA];exact⟨rfl,J.o.make ay.size bT.o ⟨_,_,_,_,_,_,_,bU.o,bN⟩ (J.o.r2.step aG Y5 Y5 bH λb I=>ϑ (xE J.o.own bj I)) (J.o.r3.step aG Y5 Y5 bH λb I=>ϑ (xE J.o.own bj I)) (J.o.rows ay) ⟨ag.most,ag.row,ag.lt,ag.sq,ag.src⟩,ay.mono λb I=>J.o.muts b I⟩
def Ii (h:LnX N w k vo s) (x:ItS) (os J M:Option Addr) (I ke H:Nat) (U:PkS w (δ os x.pk.ss.length I) (δ J x.pk.ex.length ke) (δ M x.pk.pl.length H) x.pk) (ab:uf x.pk) (Y:uj x.pk):
  Calls prog 136 #[γ k.L,(Γj x os I J ke M H)] w λe w'=>e= .returned (.tuple #[ι (xp s x).2.1,μ (xp s x).2.2.1,ι (xp s x).2.2.2])/\LnX (xf N w w') w' k vo (xp s x).1/\jt N w w':=by
 by_cases h1:(jj x.layer&&jJ x.pk)=ύ
 ·have e:xp s x=(s,0,ύ,1):=by unfold xp;rw[ϐ h1]
  rw[e];refine(Qt h x os J M I ke H U Y 1 ?_).mono ?_
  ·cases d:jj x.layer with
   | false=>exact ϑ ⟨rfl,rfl⟩
   | true=>rw[d] at h1;exact ϕ (ϑ ⟨rfl,by simpa using h1,rfl⟩)
  ·rintro e w' ⟨rfl,m⟩;exact⟨rfl,h.grow m,jt.of_more m⟩
 ·have d:jj x.layer=ό/\jJ x.pk=ό:=by simpa using h1
  cases hg:s.gone with
  | true=>
   have e:xp s x=(s,0,ύ,7):=by unfold xp;rw[ώ h1,ϐ hg]
   rw[e];refine(Qt h x os J M I ke H U Y 7 (ϕ (ϕ (ϑ ⟨d.1,d.2,hg,rfl⟩)))).mono ?_;rintro e w' ⟨rfl,m⟩;exact⟨rfl,h.grow m,jt.of_more m⟩
  | false=>
   cases hw:s.wanted with
   | false=>
    have e:xp s x=(s,0,ύ,5):=by unfold xp;rw[ώ h1,ώ (by rw[hg];decide),ϐ hw]
    rw[e];refine(Qt h x os J M I ke H U Y 5 (ϕ (ϕ (ϕ ⟨d.1,d.2,hg,hw,rfl⟩)))).mono ?_;rintro e w' ⟨rfl,m⟩;exact⟨rfl,h.grow m,jt.of_more m⟩
   | true=>
    have e:xp s x=((yX s x).1,(yX s x).2.1,(yX s x).2.2,0):=by unfold xp;rw[ώ h1,ώ (by rw[hg];decide),ώ (by rw[hw];decide)]
    rw[e];have O:=Uy h x os J M I ke H U ab Y d.1 d.2 hg hw;by_cases hc:s.A.length<s.room
    ·have aa:yX s x=({s with A:=s.A++[x]},0,ύ):=by unfold yX;rw[ϐ hc]
     rw[aa];simp only[hc,A7,not_true,decide_false] at O;exact O
    ·have aa:yX s x=({s with A:=s.A.tail++[x]},(s.A.head?.map (·.id)).getD 0,ό):=by unfold yX;rw[ώ hc]
     rw[aa];simp only[hc,C2,not_false_iff,decide_true] at O;exact O
def Qv {d e n m:Nat} {xs:List Value} (h:w.ownsRow base e n v m xs) (J:d<=base):w.ownsRow d e n v m xs:=by
 obtain⟨H,I⟩:=h;refine⟨H, ?_⟩;rcases I with h | ⟨b,cap,cur,e1,hb1,rest⟩
 ·exact ϑ h
 ·exact ϕ ⟨b,cap,cur,e1,Ϙ J hb1,rest⟩
def Wl {d:Nat->Prop} {w1 w2:World} (H:w.heap.size<=w1.heap.size) (I:w1.heap.size<=w2.heap.size):xf (xf d w w1) w1 w2=xf d w w2:=by
 funext b
 apply propext;unfold xf;constructor
 ·rintro((e | e) | e)
  ·exact ϑ e
  ·exact ϕ ⟨e.1,τ⟩
  ·exact ϕ ⟨τ,e.2⟩
 ·rintro(e | e)
  ·exact ϑ (ϑ e)
  ·by_cases h:b<w1.heap.size
   ·exact ϑ (ϕ ⟨e.1,h⟩)
   ·exact ϕ ⟨τ,e.2⟩
def je.widen {α:Type} {n:Nat} {R:qL α} {D':Nat->Prop} {e:Nat} {L:List α} (h:je n R D w base e v L) (k: ∀b,D' b->D b∨w.heap.size<=b):je n R D' w base e v L:=by
 have J:=λ{b} (d:v.ownBlock=ϊ b)=>h.lt d
 obtain⟨⟨xs,o,r⟩,H⟩:=h;refine⟨⟨xs,o,λi hi=>(r i hi).other λb d=> ?_⟩,λb d I=> ?_⟩
 ·rcases d with e | e
  ·rcases k b e with e | e
   ·exact ϑ (ϑ e)
   ·exact ϕ e
  ·exact ϑ (ϕ e)
 ·rcases k b I with e | e
  ·exact H b d e
  ·have:=J d;omega
def ZT (a:zb (jw RIt D w) q l):q.map idN=l.map (·.id)/\ ∀c∈q,∃i r,c= ι i::r/\r.length=12:=by
 induction l generalizing q with
 | nil=>rw[a.nil_r];exact⟨rfl,λc d=>by simp at d⟩
 | cons y l ih=>
  obtain⟨c,q',rfl,J,a'⟩:=a.uncons;obtain⟨H,I⟩:=ih a';obtain⟨N,M,vp,rfl,_⟩:=J.read;refine⟨by rw[Ϟ,Ϟ,H];rfl,λc d=> ?_⟩;rcases Ϯ.1 d with rfl | d
  ·exact⟨_,_,rfl,rfl⟩
  ·exact I c d
def VV {l:List (ItS×Bool)} (a:zb (jw RCh D w) q l):q.map idN=l.map (·.1.id)/\ ∀c∈q,∃i r,c= ι i::r/\r.length=13:=by
 induction l generalizing q with
 | nil=>rw[a.nil_r];exact⟨rfl,λc d=>by simp at d⟩
 | cons y l ih=>
  obtain⟨c,q',rfl,J,a'⟩:=a.uncons;obtain⟨H,I⟩:=ih a';obtain⟨N,M,vp,rfl,_⟩:=J.read;refine⟨by rw[Ϟ,Ϟ,H];rfl,λc d=> ?_⟩;rcases Ϯ.1 d with rfl | d
  ·exact⟨_,_,rfl,rfl⟩
  ·exact I c d
def Vv {l:List (Int×List Int)} (a:zb (jw ROu D w) q l):q.map idN=l.map (·.1)/\ ∀c∈q,∃i r,c= ι i::r/\r.length=1:=by
 induction l generalizing q with
 | nil=>rw[a.nil_r];exact⟨rfl,λc d=>by simp at d⟩
 | cons y l ih=>
  obtain⟨c,q',rfl,J,a'⟩:=a.uncons;obtain⟨H,I⟩:=ih a';obtain⟨v,rfl,_⟩:=J.read;refine⟨by rw[Ϟ,Ϟ,H];rfl,λc d=> ?_⟩;rcases Ϯ.1 d with rfl | d
  ·exact⟨_,_,rfl,rfl⟩
  ·exact I c d
def Z1 (h:LnX N w k vo s):Calls prog 126 #[γ k.L,ι 1] w λe w'=>(∃v,e= .returned v/\w'.ownsRow w.heap.size 3 1 v (s.A.map (·.id)).length ((s.A.map (·.id)).map (Value.int .i64)))/\LnX (xf N w w') w' k vo {s with A:=[]}/\jt k.muts w w':=by
 have c1:w.cell? ⟨k.L,1,ϋ⟩=ϊ (π (ϊ ⟨k.R1,0,ϋ⟩)):=qm h.blk 1 rfl;have H:=κ h;have ai:=κ h.dist;obtain⟨ax,U,au,av,aq,ar,aw,I,J⟩:=h.r1;have aj:=κ I;have ao:=κ (ZT J).2;have al:=κ (ZT J).1;have ap:Hid (∀c∈U,∀u∈c,u.oneCell'=ό):=κ λc az=>(I.qall c az).2
 have aA:U.length<=8:=by have:=I.fits;have:=I.pos;omega
 clear h I J
 go_enter func126,ntmps126
 go_wp2_with (first | (go_at_call 180;(go_call IN w k.R1 k.A1 s.room ax U au av aq ar aw aj.o as e w1 ⟨aB,rfl,ah,I,J⟩;have am:=κ ah;have ak:=κ I;have aa:=κ J;clear ah I J)) | (go_at_call 179;(go_call Nl w1 aB U w.heap.size am.o ao.o ap.o aA as e w2 ⟨⟨aZ,rfl,o2⟩,ag⟩;have an:=κ o2;have ab:=κ ag;clear o2 ag)))
 go_ret;obtain⟨⟨aE,aF,aG,aH,aI,aJ⟩,⟨aK,aL,aM,aN,aO⟩,⟨aQ,aR,aS,aT⟩,⟨aU,aV,aW⟩,⟨aX,aY⟩,_⟩:=ai.o;have O:jt (RgB k.R1 k.A1) w w2:=aa.o.more ab.o;have ae: ∀b,RgB k.R1 k.A1 b->k.muts b:=λb d=>ϕ (ϑ d)
 have Y:jt k.muts w w2:=O.mono ae;have af: ∀b,vo.ownBlock=ϊ b->vo.ownBlock=ϊ b∨w.heap.size<=b:=λb d=>ϑ d
 have ad: ∀b,RgB k.R1 k.A1 b->lnE N k vo b:=λb d=>kZ (ae b d)
 have M:=H.o.ok;obtain⟨aP,aC,aD,ay⟩:=ak.o;have ac:=Qv an.o aa.o.size;rw[al.o] at ac;exact⟨⟨_,rfl,ac⟩,H.o.make Y.size (O.blk H.o.blk Y5) ⟨_,_,_,_,_,_,_,ay.more ab.o,trivial⟩ (H.o.r2.step O Y5 Y5 ad λb d=>ϑ (xE H.o.own af d)) (H.o.r3.step O Y5 Y5 ad λb d=>ϑ (xE H.o.own af d)) (H.o.rows Y) ⟨M.most,M.row,M.lt,M.sq,M.src⟩,Y⟩
def ZZ (h:LnX N w k vo s):Calls prog 126 #[γ k.L,ι 2] w λe w'=>(∃v,e= .returned v/\w'.ownsRow w.heap.size 3 1 v (s.B.map (·.1.id)).length ((s.B.map (·.1.id)).map (Value.int .i64)))/\LnX (xf N w w') w' k vo {s with B:=[]}/\jt k.muts w w':=by
 have c1:w.cell? ⟨k.L,2,ϋ⟩=ϊ (π (ϊ ⟨k.R2,0,ϋ⟩)):=qm h.blk 2 rfl;have H:=κ h;have ah:=κ h.dist;obtain⟨aw,U,ar,au,ap,aq,av,I,J⟩:=h.r2;have ai:=κ I;have an:=κ (VV J).2;have ak:=κ (VV J).1;have ao:Hid (∀c∈U,∀u∈c,u.oneCell'=ό):=κ λc ay=>(I.qall c ay).2
 have az:U.length<=8:=by have:=I.fits;have:=I.pos;omega
 clear h I J
 go_enter func126,ntmps126
 go_wp2_with (first | (go_at_call 183;(go_call IO w k.R2 k.A2 s.room aw U ar au ap aq av ai.o as e w1 ⟨aA,rfl,ag,I,J⟩;have al:=κ ag;have aj:=κ I;have A2:=κ J;clear ag I J)) | (go_at_call 182;(go_call Nm w1 aA U w.heap.size al.o an.o ao.o az as e w2 ⟨⟨aY,rfl,o2⟩,af⟩;have am:=κ o2;have aa:=κ af;clear o2 af)))
 go_ret;obtain⟨⟨aD,aE,aF,aG,aH,aI⟩,⟨aJ,aK,aL,aM,aN⟩,⟨aP,aQ,aR,aS⟩,⟨aT,aU,aV⟩,⟨aW,aX⟩,_⟩:=ah.o;have O:jt (RgB k.R2 k.A2) w w2:=A2.o.more aa.o;have ad: ∀b,RgB k.R2 k.A2 b->k.muts b:=λb d=>ϕ (ϕ (ϑ d))
 have Y:jt k.muts w w2:=O.mono ad;have ae: ∀b,vo.ownBlock=ϊ b->vo.ownBlock=ϊ b∨w.heap.size<=b:=λb d=>ϑ d
 have ac: ∀b,RgB k.R2 k.A2 b->lnE N k vo b:=λb d=>kZ (ad b d)
 have M:=H.o.ok;obtain⟨aO,aB,aC,ax⟩:=aj.o;have ab:=Qv am.o A2.o.size;rw[ak.o] at ab;exact⟨⟨_,rfl,ab⟩,H.o.make Y.size (O.blk H.o.blk Y5) (H.o.r1.step O Y5 Y5 ac λb d=>ϑ (xE H.o.own ae d)) ⟨_,_,_,_,_,_,_,ax.more aa.o,trivial⟩ (H.o.r3.step O Y5 Y5 ac λb d=>ϑ (xE H.o.own ae d)) (H.o.rows Y) ⟨M.most,M.row,M.lt,M.sq,M.src⟩,Y⟩
def ZY (h:LnX N w k vo s):Calls prog 126 #[γ k.L,ι 3] w λe w'=>(∃v,e= .returned v/\w'.ownsRow w.heap.size 3 1 v (s.C.map (·.1)).length ((s.C.map (·.1)).map (Value.int .i64)))/\LnX (xf N w w') w' k vo {s with C:=[]}/\jt k.muts w w':=by
 have c1:w.cell? ⟨k.L,3,ϋ⟩=ϊ (π (ϊ ⟨k.R3,0,ϋ⟩)):=qm h.blk 3 rfl;have H:=κ h;have ai:=κ h.dist;obtain⟨ax,U,au,av,aq,ar,aw,I,J⟩:=h.r3;have aj:=κ I;have ao:=κ (Vv J).2;have al:=κ (Vv J).1;have ap:Hid (∀c∈U,∀u∈c,u.oneCell'=ό):=κ λc az=>(I.qall c az).2
 have aA:U.length<=8:=by have:=I.fits;have:=I.pos;omega
 clear h I J
 go_enter func126,ntmps126
 go_wp2_with (first | (go_at_call 186;(go_call IM w k.R3 k.A3 s.room ax U au av aq ar aw aj.o as e w1 ⟨aB,rfl,ah,I,J⟩;have am:=κ ah;have ak:=κ I;have aa:=κ J;clear ah I J)) | (go_at_call 185;(go_call Nk w1 aB U w.heap.size am.o ao.o ap.o aA as e w2 ⟨⟨aZ,rfl,o2⟩,ag⟩;have an:=κ o2;have ab:=κ ag;clear o2 ag)))
 go_ret;obtain⟨⟨aE,aF,aG,aH,aI,aJ⟩,⟨aK,aL,aM,aN,aO⟩,⟨aQ,aR,aS,aT⟩,⟨aU,aV,aW⟩,⟨aX,aY⟩,_⟩:=ai.o;have O:jt (RgB k.R3 k.A3) w w2:=aa.o.more ab.o;have ae: ∀b,RgB k.R3 k.A3 b->k.muts b:=λb d=>ϕ (ϕ (ϕ d))
 have Y:jt k.muts w w2:=O.mono ae;have af: ∀b,vo.ownBlock=ϊ b->vo.ownBlock=ϊ b∨w.heap.size<=b:=λb d=>ϑ d
 have ad: ∀b,RgB k.R3 k.A3 b->lnE N k vo b:=λb d=>kZ (ae b d)
 have M:=H.o.ok;obtain⟨aP,aC,aD,ay⟩:=ak.o;have ac:=Qv an.o aa.o.size;rw[al.o] at ac;exact⟨⟨_,rfl,ac⟩,H.o.make Y.size (O.blk H.o.blk Y5) (H.o.r1.step O Y5 Y5 ad λb d=>ϑ (xE H.o.own af d)) (H.o.r2.step O Y5 Y5 ad λb d=>ϑ (xE H.o.own af d)) ⟨_,_,_,_,_,_,_,ay.more ab.o,trivial⟩ (H.o.rows Y) ⟨M.most,M.row,M.lt,M.sq,M.src⟩,Y⟩
def vh (s:LnS) (n:Int):LnS:={s with A:=if n=1 then [] else s.A,B:=if n=2 then [] else s.B,C:=if n=3 then [] else s.C}
def Cm (h:LnX N w k vo s) (n:Int) (I:n=1∨n=2∨n=3):Calls prog 126 #[γ k.L,ι n] w λe w'=>(∃v,e= .returned v)/\LnX (xf N w w') w' k vo (vh s n)/\jt k.muts w w':=by
 rcases I with rfl | rfl | rfl
 ·refine(Z1 h).mono ?_;rintro e w' ⟨⟨v,rfl,_⟩,d,H⟩;exact⟨⟨v,rfl⟩,d,H⟩
 ·refine(ZZ h).mono ?_;rintro e w' ⟨⟨v,rfl,_⟩,d,H⟩;exact⟨⟨v,rfl⟩,d,H⟩
 ·refine(ZY h).mono ?_;rintro e w' ⟨⟨v,rfl,_⟩,d,H⟩;exact⟨⟨v,rfl⟩,d,H⟩
def zt (g b n:Int):Int×Int:=
 if 63<n-g then (n,1) else if 0<n-g then (n,bits .or .u64 (IntKind.u64.wrap (b* 2 ^ (n-g).toNat)) 1)
 else if-63<=n-g then (g,lay b (-(n-g)) 1 1) else (g,b)
def yi (g b m:Int):Bool:=decide (m<=g/\g-m<=63)&&b.toNat.testBit (g-m).toNat
def DV (i:Nat):Nat.testBit 1 i=decide (i=0):=by
 cases i with
 | zero=>rfl
 | succ i=>simp[Nat.testBit_succ]
def D7 (b:Int) (k:Nat) (I:U64 b) (O:0<k) (N:k<=63):
  U64 (bits .or .u64 (IntKind.u64.wrap (b* 2 ^ k)) 1)/\ ∀i:Nat,i<64->(bits .or .u64 (IntKind.u64.wrap (b* 2 ^ k)) 1).toNat.testBit i=(decide (i=0)||(decide (k<=i)&&b.toNat.testBit (i-k))):=by
 obtain⟨d,M⟩:=I;obtain⟨B,rfl⟩:=Ϻ d;have e:IntKind.u64.wrap ((B:Int)* 2 ^ k)=((B* 2 ^ k%2 ^ 64:Nat):Int):=by
  rw[IntKind.wrap_u64,I5,Int.natCast_mul];simp
 have J:B* 2 ^ k%2 ^ 64<2 ^ 64:=J3 _ ζ;have H:bits .or .u64 (IntKind.u64.wrap ((B:Int)* 2 ^ k)) 1=((B* 2 ^ k%2 ^ 64||| 1:Nat):Int):=by
  rw[e,show (1:Int)=((1:Nat):Int) from rfl,u64_or_nat _ _ τ τ]
 have U:(B* 2 ^ k%2 ^ 64||| 1)<2 ^ 64:=Nat.or_lt_two_pow J ζ;rw[H];refine⟨⟨τ,τ⟩,λi hi=> ?_⟩;rw[Ψ,Ψ,Nat.testBit_or,Nat.testBit_mod_two_pow,Nat.testBit_mul_two_pow,DV];simp only[hi,decide_true,G3];rw[Bool.or_comm]
def QD (g b n:Int):(zt g b n).1=max g n:=by
 unfold zt;split
 ·simp;omega
 ·split
  ·simp;omega
  ·split<;>(simp;omega)
def VG (g b n:Int) (d:U64 b):U64 (zt g b n).2:=by
 unfold zt;split
 ·exact⟨(by decide:(0:Int)<=1),(by decide:(1:Int)<=18446744073709551615)⟩
 ·split
  ·exact(D7 b _ d τ τ).1
  ·split
   ·exact EW _ _ _ _ d
   ·exact d
def EU (b k:Int) (H:U64 b) (d:0<=k/\k<=63) (i:Nat) (hi:i<64):(lay b k 1 1).toNat.testBit i=(decide (i=k.toNat)||b.toNat.testBit i):=by
 rw[Py b k 1 1 ⟨d.1,d.2,τ,τ⟩,Qa];simp only[hi,decide_true,G3];by_cases h:i=k.toNat
 ·subst h;simp
 ·rw[ώ (by simp;omega)];simp[h]
def ZR (g b n m:Int) (N:U64 b):yi (zt g b n).1 (zt g b n).2 m=(decide (m<=max g n/\max g n-m<=63)&&(decide (m=n)||yi g b m)):=by
 have O:=QD g b n;by_cases hin:m<=max g n/\max g n-m<=63
 ·rw[show yi (zt g b n).1 (zt g b n).2 m=(zt g b n).2.toNat.testBit (max g n-m).toNat from by unfold yi;rw[O];simp[hin]];simp only[hin,and_self,decide_true,G3];unfold zt;by_cases h1:63<n-g
  ·rw[ϐ h1];have e:max g n=n:=by omega
   rw[e] at *;unfold yi;by_cases d:m=n
   ·subst d;simp
   ·have:(n-m).toNat≠0:=by omega
    simp only[d,decide_false,Bool.false_or];have J: ¬(m<=g/\g-m<=63):=by omega
    simp only[J,decide_false,K3];rw[show (1:Int).toNat=1 from rfl,DV];simp;omega
  ·rw[ώ h1];by_cases J:0<n-g
   ·rw[ϐ J];have e:max g n=n:=by omega
    rw[e] at *;simp only[];rw[(D7 b (n-g).toNat N τ τ).2 _ τ];unfold yi;by_cases d:m=n
    ·subst d;simp
    ·have H:(n-m).toNat≠0:=by omega
     by_cases h4:m<=g
     ·have M:(n-g).toNat<=(n-m).toNat:=by omega
      have I:m<=g/\g-m<=63:=by omega
      simp only[d,H,M,I,and_self,decide_true,decide_false,Bool.false_or,G3];rw[show (n-m).toNat-(n-g).toNat=(g-m).toNat from by omega]
     ·have M: ¬(n-g).toNat<=(n-m).toNat:=by omega
      simp[d,H,h4,M]
   ·rw[ώ J];have e:max g n=g:=by omega
    rw[e] at *;by_cases H: -63<=n-g
    ·rw[ϐ H,EU b _ N τ _ τ];unfold yi;have I:m<=g/\g-m<=63:=by omega
     have U:decide ((g-m).toNat=(-(n-g)).toNat)=decide (m=n):=by rw[C6];simp;omega
     rw[U];simp[I]
    ·rw[ώ H];unfold yi;have d:m≠n:=by omega
     have I:m<=g/\g-m<=63:=by omega
     simp[d,I]
 ·have:yi (zt g b n).1 (zt g b n).2 m=ύ:=by
   unfold yi;rw[O];simp only[hin,decide_false,K3]
  rw[this];simp only[hin,decide_false,K3]
def Eb (g b c:Int) (I:U64 b) (J:U64 c) (h: ∀m,yi g b m=yi g c m):b=c:=by
 obtain⟨d,M⟩:=I;obtain⟨H,c1⟩:=J;obtain⟨B,rfl⟩:=Ϻ d;obtain⟨C,rfl⟩:=Ϻ H;have:B=C:=by
  apply BN τ τ;intro i hi;have:=h (g-i);unfold yi at this;have e:g-(i:Int)<=g/\g-(g-(i:Int))<=63:=by omega
  simp only[e,and_self,decide_true,G3,Ψ] at this
  rwa [show (g-(g-(i:Int))).toNat=i from by omega] at this
 rw[this]
def WX {g b m:Int} (h:yi g b m=ό):m<=g/\g-m<=63:=by
 unfold yi at h;simp only[B4,B3] at h;exact h.1
def IC (g b n:Int) (d:U64 b) (h:g-63<=n):((zt g b n).1==g&&(zt g b n).2==b)=yi g b n:=by
 have H:=QD g b n;by_cases hle:n<=g
 ·have e:(zt g b n).1=g:=by rw[H];omega
  rw[e];simp only[BEq.rfl,G3];by_cases hk:yi g b n=ό
  ·rw[hk,beq_iff_eq];apply Eb g _ _ (VG g b n d) d;intro m;have:=ZR g b n m d;rw[e] at this;rw[this];by_cases hm:m=n
   ·subst hm;rw[hk];have:=WX hk;simp;omega
   ·by_cases hkm:yi g b m=ό
    ·have:=WX hkm;simp[hkm];omega
    ·simp only[Bool.not_eq_true] at hkm;simp[hm,hkm]
  ·simp only[Bool.not_eq_true] at hk;rw[hk];simp only[beq_eq_false_iff_ne,ne_eq];intro I;have:=ZR g b n n d;rw[e,I,hk] at this;simp at this;omega
 ·have e:((zt g b n).1==g)=ύ:=by rw[H];simp;omega
  rw[e,K3];unfold yi;have: ¬(n<=g/\g-n<=63):=by omega
  simp[this]
def Gx:prog.eqGuardType prog.depth 233=ύ:=by kernel_rfl
def Ya (n:Int) (w:World):
  Calls prog 237 #[ι n] w λe w'=>e= .returned (θ #[ι n,ψ 1])/\ql w w':=by
 go_enter func237,ntmps237
 go_wp2;exact bodyPost_ret (v:= θ #[ι n,ψ 1]) (by simp[results,results237,go_sem]) rfl ⟨rfl,(ql.refl _).al _⟩
def CJ (g b n:Int) (I: -2305843009213693952<=g/\g<=2305843009213693952) (J: -2305843009213693952<=n/\n<=2305843009213693952) (O:63<n-g) (w:World):
  Calls prog 236 #[θ #[ι g,ψ b],ι n] w λe w'=>e= .returned (θ #[ι n,ψ 1])/\ql w w':=by
 obtain⟨M,N⟩:=I;obtain⟨Y,n2⟩:=J
 go_enter func236,ntmps236
 go_wp2_with (go_at_call 237;refine(Ya n _).mono ?_;rintro e w1 ⟨rfl,d⟩;obtain⟨H,U⟩:=d.rules)
 refine bodyPost_ret (v:= θ #[ι n,ψ 1]) (by simp[results,results236,go_sem,H]) rfl ⟨rfl, ?_⟩;exact((((ql.refl w).al _).al _ |>.trans d).st η _).st η _
def FQ (g b n:Int) (d: -2305843009213693952<=g/\g<=2305843009213693952) (H: -2305843009213693952<=n/\n<=2305843009213693952) (M:n-g<=63) (N:0<n-g) (w:World):
  Calls prog 236 #[θ #[ι g,ψ b],ι n] w λe w'=>e= .returned (θ #[ι n,ψ (bits .or .u64 (IntKind.u64.wrap (b* 2 ^ (n-g).toNat)) 1)])/\ql w w':=by
 obtain⟨I,J⟩:=d;obtain⟨O,n2⟩:=H
 go_enter func236,ntmps236
 go_wp2;refine bodyPost_ret (v:= θ #[ι n,ψ (bits .or .u64 (IntKind.u64.wrap (b* 2 ^ (n-g).toNat)) 1)]) (by simp[results,results236,go_sem]) rfl ⟨rfl, ?_⟩;exact((ql.refl w).al _).al _
def CI (g b n:Int) (d: -2305843009213693952<=g/\g<=2305843009213693952) (H: -2305843009213693952<=n/\n<=2305843009213693952) (M:n-g< -63) (w:World):
  Calls prog 236 #[θ #[ι g,ψ b],ι n] w λe w'=>e= .returned (θ #[ι g,ψ b])/\ql w w':=by
 obtain⟨I,J⟩:=d;obtain⟨N,n2⟩:=H
 go_enter func236,ntmps236
 go_wp2;refine bodyPost_ret (v:= θ #[ι g,ψ b]) (by simp[results,results236,go_sem]) rfl ⟨rfl, ?_⟩;exact((ql.refl w).al _).al _
def FR (g b n:Int) (J: -2305843009213693952<=g/\g<=2305843009213693952) (M: -2305843009213693952<=n/\n<=2305843009213693952) (H:U64 b) (aa:n-g<=0) (ab: -63<=n-g) (w:World):
  Calls prog 236 #[θ #[ι g,ψ b],ι n] w λe w'=>e= .returned (θ #[ι g,ψ (lay b (-(n-g)) 1 1)])/\ql w w':=by
 obtain⟨U,Y⟩:=J;obtain⟨ad,n2⟩:=M;have I:=κ H;clear H;have N: ∀x:qt (w.alloc (.cells #[ι g,ψ b] 233)),x.w'.cell? ⟨w.heap.size,0,ϋ⟩=ϊ (ι g):=λx=>x.new 0 rfl
 have O: ∀x:qt (w.alloc (.cells #[ι g,ψ b] 233)),x.w'.cell? ⟨w.heap.size,1,ϋ⟩=ϊ (ψ b):=λx=>x.new 1 rfl
 go_enter func236,ntmps236
 go_wp2_with fail
 refine Qn (w.alloc (.cells #[ι g,ψ b] 233)) 8 9 [6,8] ?_
 refine Qq6 ?_
 (refine Ql ?_;intro K d)
 refine(FV b 1 _ _ I.o ζ (by unfold I64;omega) ζ _).mono ?_;rintro e w2 ⟨rfl,ac,rfl⟩;refine⟨_,rfl,qk ((X8.dr _).dr _),d _ _ ?_⟩;clear d K
 refine Qq1 ?_
 (refine Qe ?_;intro K d)
 refine d _ _ ?_;clear d K;refine qA ?_;go_wp2;refine bodyPost_ret (v:= θ #[ι g,ψ (lay b (-(n-g)) 1 1)]) (by simp[results,results236,go_sem]) rfl ⟨rfl, ?_⟩;exact(((((ql.refl w).al _).al _).dr _).st η _).st η _
def Mid (n:Int):Prop:= -2305843009213693952<=n/\n<=2305843009213693952
instance (n:Int):Decidable (Mid n):=by unfold Mid;infer_instance
def gS (g b n:Int) (d:Mid g) (H:Mid n) (I:U64 b) (w:World):
  Calls prog 236 #[θ #[ι g,ψ b],ι n] w λe w'=>e= .returned (θ #[ι (zt g b n).1,ψ (zt g b n).2])/\ql w w':=by
 by_cases h1:63<n-g
 ·rw[show zt g b n=(n,1) from by unfold zt;rw[ϐ h1]];exact CJ g b n d H h1 w
 ·by_cases h2:0<n-g
  ·rw[show zt g b n=(n,bits .or .u64 (IntKind.u64.wrap (b* 2 ^ (n-g).toNat)) 1) from by unfold zt;rw[ώ h1,ϐ h2]];exact FQ g b n d H τ h2 w
  ·by_cases h3: -63<=n-g
   ·rw[show zt g b n=(g,lay b (-(n-g)) 1 1) from by unfold zt;rw[ώ h1,ώ h2,ϐ h3]];exact FR g b n d H I τ h3 w
   ·rw[show zt g b n=(g,b) from by unfold zt;rw[ώ h1,ώ h2,ώ h3]];exact CI g b n d H τ w
def FX (g b n:Int) (Y:Mid g) (aa:Mid n) (O:U64 b) (w:World):
  Calls prog 248 #[θ #[ι g,ψ b],ι n] w λe w'=>e= .returned (μ (yi g b n))/\ql w w':=by
 have J:=κ O;have M:=κ Y;have N:=κ aa;have U:U64 b:=O;clear O;obtain⟨ae,af⟩:=Y;obtain⟨ah,n2⟩:=aa;have ac: ∀x:qt (w.alloc (.cells #[ι g,ψ b] 233)),x.w'.cell? ⟨w.heap.size,0,ϋ⟩=ϊ (ι g):=λx=>x.new 0 rfl
 have ad: ∀x:qt (w.alloc (.cells #[ι g,ψ b] 233)),x.w'.cell? ⟨w.heap.size,1,ϋ⟩=ϊ (ψ b):=λx=>x.new 1 rfl
 have ab:=Gx;by_cases hlt:g-63<=n
 ·have I:=IC g b n U hlt;clear U;by_cases e1:(zt g b n).1=g
  ·by_cases e2:(zt g b n).2=b
   ·have d:=κ (show ό=yi g b n by rw[<-I];simp[e1,e2]);clear I
    go_enter func248,ntmps248
    go_wp2;refine qD (w.alloc (.cells #[ι g,ψ b] 233)) (ql.refl _) ξ ξ ?_
    repeat (go_big_quiet_step ((go_at_call 236;exact j6 (gS g b n M.o N.o J.o _))))
    refine wpQuiet_nil ?_;intro _ H;obtain⟨x,rfl⟩:=H;go_wp2;go_ret;exact⟨qZ d.o,X8.trans x.h⟩
   ·have d:=κ (show ύ=yi g b n by rw[<-I];simp[e2]);clear I
    go_enter func248,ntmps248
    go_wp2;refine qD (w.alloc (.cells #[ι g,ψ b] 233)) (ql.refl _) ξ ξ ?_
    repeat (go_big_quiet_step ((go_at_call 236;exact j6 (gS g b n M.o N.o J.o _))))
    refine wpQuiet_nil ?_;intro _ H;obtain⟨x,rfl⟩:=H;go_wp2;go_ret;exact⟨qZ d.o,X8.trans x.h⟩
  ·have d:=κ (show ύ=yi g b n by rw[<-I];simp[e1]);clear I
   go_enter func248,ntmps248
   go_wp2;refine qD (w.alloc (.cells #[ι g,ψ b] 233)) (ql.refl _) ξ ξ ?_
   repeat (go_big_quiet_step ((go_at_call 236;exact j6 (gS g b n M.o N.o J.o _))))
   refine wpQuiet_nil ?_;intro _ H;obtain⟨x,rfl⟩:=H;go_wp2;go_ret;exact⟨qZ d.o,X8.trans x.h⟩
 ·have d:=κ (show ύ=yi g b n by unfold yi;simp[show ¬(n<=g/\g-n<=63) by omega]);clear U;have ag:decide (g-63<=n)=ύ:=by simp;omega
  clear hlt
  go_enter func248,ntmps248
  go_wp2;refine qD (w.alloc (.cells #[ι g,ψ b] 233)) (ql.refl _) ξ ξ ?_
  repeat (go_big_quiet_step (fail))
  refine wpQuiet_nil ?_;intro _ H;obtain⟨x,rfl⟩:=H;go_wp2;go_ret;exact⟨qZ d.o,X8.trans x.h⟩
abbrev Hd:=Int×Int×Int
variable {L:List Hd} {p:Hd->Bool}
def hd1 (h:Hd):List Value:=[.int .i64 h.1,.int .i64 h.2.1,.int .i64 h.2.2]
def hdC (l:List Hd):List Value:=l.flatMap hd1
def gP (h:Hd) (l:List Hd):hdC (h::l)=hd1 h++hdC l:=rfl
def uT (k l:List Hd):hdC (k++l)=hdC k++hdC l:=by simp[hdC]
def yu (l:List Hd):(hdC l).length=l.length* 3:=by
 induction l with
 | nil=>rfl
 | cons p l ih=>rw[gP,Ϗ,ih,ϙ];simp[hd1];omega
def Ac: ∀(l:List Hd) (i:Nat),i<l.length->(hdC l)[i* 3]? =ϊ (ι (l.getD i (0,0,0)).1)/\(hdC l)[i* 3+1]? =ϊ (ι (l.getD i (0,0,0)).2.1)/\(hdC l)[i* 3+2]? =ϊ (ι (l.getD i (0,0,0)).2.2)
 | [],_,h=>ϩ h η
 | h::l,0,_=>⟨rfl,rfl,rfl⟩
 | h::l,i+1,hi=>by
  have d:=Ac l i (by simpa using hi);have e: ∀c,(hdC (h::l))[(i+1)* 3+c]? =(hdC l)[i* 3+c]? :=by
   intro c;rw[gP,Γ (by simp[hd1];omega)]
   congr 1
   simp[hd1];omega
  have e0:=e 0;rw[G1,G1] at e0;rw[e0,e 1,e 2];exact d
def YE (l:List Hd): ∀u∈hdC l,u.oneCell'=ό:=by
 intro u d;obtain⟨h,_,d⟩:=List.mem_flatMap.1 d;simp[hd1] at d;rcases d with rfl | rfl | rfl<;>rfl
def zT (w:World) (base:Nat) (v:Value) (L:List Hd):Prop:=w.ownsRow base 338 3 v L.length (hdC L)
def zT.more (h:zT w base v L) (m:ql w w'):zT w' base v L:=jE h m
def zT.shape (h:zT w base v L): ∃oa cap,v= δ oa L.length cap/\(L.length:Int)<=9223372036854775807:=by
 rcases h.2 with ⟨rfl,d⟩ | ⟨g,cap,cur,rfl,_,_,I,H,_⟩
 ·exact⟨ϋ,0,by rw[d],τ⟩
 ·exact⟨_,cap,rfl,by unfold maxLen at H;omega⟩
def zT.cell (h:zT w base v L) (i:Nat) (hi:i<L.length):
  ∃g cap,v= δ (ϊ ⟨g,0,ϋ⟩) L.length cap/\base<=g/\g<w.heap.size/\ ∀x,ql w x->x.cell? ⟨g,i* 3,ϋ⟩=ϊ (ι (L.getD i (0,0,0)).1)/\x.cell? ⟨g,i* 3+1,ϋ⟩=ϊ (ι (L.getD i (0,0,0)).2.1)/\x.cell? ⟨g,i* 3+2,ϋ⟩=ϊ (ι (L.getD i (0,0,0)).2.2):=by
 rcases h.2 with ⟨rfl,O⟩ | ⟨g,cap,cur,rfl,J,d,Y,U,aa,N⟩
 ·omega
 ·refine⟨g,cap,rfl,J,lt_of_block d,λx m=> ?_⟩;obtain⟨a0,H,I⟩:=Ac L i hi;have key: ∀j,j<L.length* 3->x.cell? ⟨g,j,ϋ⟩=(hdC L)[j]? :=by
   intro j M;rw[m.cells g j (lt_of_block d),cell_of_row w g _ cur _ (0,0) d,<-N,ο,ϐ M];simp
  exact⟨by rw[key _ τ];exact a0,by rw[key _ τ];exact H,by rw[key _ τ];exact I⟩
def Jk (p:Hd->Bool) (L:List Hd):Int:=if L.findIdx p<L.length then (L.findIdx p:Int) else -1
def Cf {k:Nat} (d:k<L.length) (h:p (L.getD k (0,0,0))=ό) (H: ∀j,j<k->p (L.getD j (0,0,0))=ύ):Jk p L=k:=by
 have e:L.findIdx p=k:=by
  rw[List.findIdx_eq d];rw[ϒ,ϖ d,ϣ] at h;refine⟨h,λj I=> ?_⟩;have:=H j I
  rwa [ϒ,ϖ τ,ϣ] at this
 unfold Jk;rw[e,ϐ d]
def PF (H: ∀j,j<L.length->p (L.getD j (0,0,0))=ύ):Jk p L= -1:=by
 have e:L.findIdx p=L.length:=by
  rw[List.findIdx_eq_length];intro x I;obtain⟨j,d,rfl⟩:=A0.1 I;have:=H j d
  rwa [ϒ,ϖ d,ϣ] at this
 unfold Jk;rw[e,ώ (O1 _)]
def Cg (p:Hd->Bool) (L:List Hd):decide (0<=Jk p L)=L.any p:=by
 unfold Jk;by_cases h:L.findIdx p<L.length
 ·rw[ϐ h,Ϫ τ];exact(Q4.2 ⟨L[L.findIdx p],ϡ _,List.findIdx_getElem⟩).symm
 ·rw[ώ h];have e:L.any p=ύ:=by
   rw[M0];intro x H d;exact h (List.findIdx_lt_length_of_exists ⟨x,H,d⟩)
  rw[e];rfl
def ZA (g:Nat) (lb:Array Value) (p:Hd->Bool) (L:List Hd) (w:World):Prop:=
 ∀(W:World) (x:Hd),x∈L->ql w W->Calls Tryz.prog g (#[.agg #[.int .i64 x.1,.int .i64 x.2.1,.int .i64 x.2.2]]++lb) W λe w'=>e= .returned (.bool (p x))/\ql W w'
def wJ (g:Nat) (lb:Array Value) (p:Hd->Bool) (ab: ∀args w,(callFunc g args).run prog w= .ok (.enter g args) w) (L:List Hd) (v:Value) (base:Nat) (w:World) (row:zT w base v L) (af:ZA g lb p L w):
  Calls prog 231 #[v,.func (.func g) #[] lb] w λe w'=>e= .returned (ι (Jk p L))/\ql w w':=by
 have ah:=κ row;have ag:=κ af;obtain⟨aq,cap,rfl,an⟩:=row.shape;clear row af
 go_enter func231,ntmps231
 go_wp2
 go_loopw [5,8] (λ_ aa wr=> ∃k:Nat,k<=L.length/\aa= ι k/\(∀j,j<k->p (L.getD j (0,0,0))=ύ)/\ql w wr) (λ_ aa _=>L.length-(intOf aa).toNat)
 case atStart=>exact⟨0,τ,rfl,λj ae=>ϩ ae (Nat.not_lt_zero _),ql.refl _⟩
 case round=>
  obtain⟨k,ap,rfl,ac,M⟩:=hrel;have J:=κ ac;have O:=κ M;clear ac;by_cases hlt:k<L.length
  ·have aj:(k:Int)<(L.length:Int):=by omega
   obtain⟨b,c,e,_,ao,ad⟩:=ah.o.cell k hlt;cases e;obtain⟨ai,c1,c2⟩:=ad wr M;have d:=ag.o wr (L.getD k (0,0,0)) (by rw[ϒ,ϖ hlt];exact ϡ hlt) M;have Y:Hid (p (L.getD k (0,0,0))=ό->Jk p L=k):=κ λh=>Cf hlt h J.o
   have U:Hid (p (L.getD k (0,0,0))=ύ-> ∀j,j<k+1->p (L.getD j (0,0,0))=ύ):=κ λh j ae=>by
    by_cases e:j=k
    ·subst e;exact h
    ·exact J.o j τ
   clear ad M J;generalize L.getD k (0,0,0)=y at *;obtain⟨ak,al,am⟩:=y;simp only at ai c1 c2 d;cases hq:p (ak,al,am) with
   | true=>
    rw[hq] at d;have H:=κ (Y.o hq);clear Y U hq
    go_wp2_with (refine d.mono ?_;rintro e w' ⟨rfl,I⟩;have N:=κ I;clear I d ab)
    go_ret;exact⟨by rw[H.o];rfl,O.o.trans N.o⟩
   | false=>
    rw[hq] at d;have H:=κ (U.o hq);clear Y U hq
    go_wp2_with (refine d.mono ?_;rintro e w' ⟨rfl,I⟩;have N:=κ I;clear I d ab)
    go_roundw
    case rel=>exact⟨k+1,τ,by go_num,H.o,O.o.trans N.o⟩
    case measure=>simp[intOf];omega
  ·obtain rfl:k=L.length:=by omega
   have H:=κ (PF J.o);have aj: ¬(L.length:Int)<(L.length:Int):=by omega
   go_wp2;go_ret;exact⟨by rw[H.o];rfl,O.o⟩
def xt (g:Nat) (lb:Array Value) (p:Hd->Bool) (J: ∀args w,(callFunc g args).run prog w= .ok (.enter g args) w) (L:List Hd) (v:Value) (base:Nat) (w:World) (row:zT w base v L) (d:ZA g lb p L w):
  Calls prog 173 #[v,.func (.func g) #[] lb] w λe w'=>e= .returned (μ (L.any p))/\ql w w':=by
 have I:=κ row;have H:=κ d;obtain⟨O,cap,rfl,N⟩:=row.shape;rw[<-Cg];clear row d
 go_enter func173,ntmps173
 go_wp2_with (go_at_call 231;((with_reducible refine(wJ g lb p J L _ base _ I.o H.o).mono ?_);rintro e w1 ⟨rfl,M⟩))
 go_ret;exact⟨rfl,M⟩
def xO (cur:List Value) (o:Nat) (vs:List Value):List Value:=cur.take o++vs++cur.drop (o+vs.length)
def ut {cur d:List Value} {o:Nat} (h:o+d.length<=cur.length):(xO cur o d).length=cur.length:=by
 unfold xO;rw[Ϗ,Ϗ,Ϡ,Ϣ];omega
def jM {g e:Nat} {cur:Array Value} (h:w.heap[g]? =ϊ (.cells cur e (0,0))) (cs:Array Value):(w.setRow g cs).heap[g]? =ϊ (.cells cs e (0,0)):=setRow_heap w g cur cs e (0,0) h
def jt.setRow (w:World) (g:Nat) (cs:Array Value):jt (λk=>k=g) w (w.setRow g cs):=by
 refine⟨rfl,rfl,rfl,by simp[World.setRow],λb H d=> ?_⟩;unfold World.setRow;simp only;rw[G0,ώ (λe=>d e.symm)]
def yN (w:World) (t ad e:TypeId) (i:TypeInfo) (ac:P.underlying t=ϊ (.slice e)) (hi:P.info? e=ϊ i) (g o H M:Nat) (cur:Array Value) (Y:w.heap[g]? =ϊ (.cells cur e (0,0)))
  (a:Addr) (d J:Nat) (cs:List Value) (aa:cs.length=Nat.min d H* i.size) (ab: ∀j v,cs[j]? =ϊ v->w.cell? (a.add j)=ϊ v) (U:o+cs.length<=cur.size) (N: ∀v∈cs,v.oneCell'=ό):
  (Builtin.copy_ #[t,t] ad #[δ (ϊ ⟨g,o,ϋ⟩) H M,δ (ϊ a) d J]).run P w= .ok (goInt (Nat.min d H)) (w.setRow g (xO cur.toList o cs).toArray):=by
 have O:=run_firstCells_some (P:=P) (w:=w) i.size (Nat.min d H) a d J cs aa ab;have I:=run_storeCells_at P g o e cs 0 cur w Y (by simpa using U) N;simp only[G1] at I;unfold xO;simp[Builtin.copy_,run_underlying ac,Builtin.lenOf,sizeOf,typeInfo,hi,O,I]
def Zi (w:World) (t O e:TypeId) (z:Value) (M:P.underlying t=ϊ (.slice e)) (N:(zeroValue e).run P w= .ok z w) (g o n c:Nat) (U:0<n) (cur:Array Value) (J:w.heap[g]? =ϊ (.cells cur e (0,0)))
  (I:o+(Builtin.zeroCells z.cells n).toList.length<=cur.size) (H: ∀v∈(Builtin.zeroCells z.cells n).toList,v.oneCell'=ό):
  (Builtin.clear_ #[t] O #[δ (ϊ ⟨g,o,ϋ⟩) n c]).run P w= .ok (.tuple #[]) (w.setRow g (xO cur.toList o (Builtin.zeroCells z.cells n).toList).toArray):=by
 have d:=run_storeCells_at P g o e (Builtin.zeroCells z.cells n).toList 0 cur w J (by simpa using I) H;simp only[G1] at d;obtain⟨m,rfl⟩: ∃m,n=m+1:=⟨n-1,τ⟩;unfold xO;simp[Builtin.clear_,run_underlying M,N,d]
def Jo
  (H:o.guard=ϋ) (s x:Operand) (t t':TypeId) (I:o.op=Op.call {callee:=Callee.builtin Builtin.append,args:= #[s,x],argTypes:= #[t,t']})
  (v u:Value) (M:a.eval s=v) (O:a.eval x=u) (J:(Builtin.append_ #[t,t'] o.type #[v,u]).run P w= .ok v' w') (d:K (a.put o.dst v') w'):
  if Region.wanted o (yielded ops a.tmps)=ό then Oper.wp P o a w K Q else E:=by
 have N:Region.wanted o (yielded ops a.tmps)=ό:=by simp[Region.wanted,H]
 rw[ϐ N];unfold Oper.wp;simp[execOp,I,resolve,invoke,builtin,M,O,J,Result.andThen];exact d
def Gt (w:World):(zeroValue 338).run prog w= .ok (θ #[ι 0,ι 0,ι 0]) w:=by kernel_rfl
def KN:(Builtin.zeroCells (θ #[ι 0,ι 0,ι 0]).cells 1).toList=[ι 0,ι 0,ι 0]:=by kernel_rfl
def Vc (h:Hd) (T:List Hd) (v:Value) (base:Nat) (w:World) (row:zT w base v (h::T)):
  Calls prog 235 #[v,ι 0,ι 1] w λe w'=> ∃v',e= .returned v'/\zT w' base v' T/\jt (λk=>v.ownBlock=ϊ k) w w'/\v'.ownBlock=v.ownBlock:=by
 obtain⟨ag,⟨_,aa⟩ | ⟨g,cap,cur,rfl,ar,M,U,ab,ac,Y⟩⟩:=row
 ·simp at aa
 rw[ϙ] at ag U Y ⊢;obtain⟨ax,aj,av,am,aw⟩:=info_parts (P:=prog) (e:=338) (z:= θ #[ι 0,ι 0,ι 0]) (size:=3) (bytes:=24) ξ;obtain⟨n,O⟩:=ν (T.length);rw[O] at ag U Y ⊢;have d:(hdC T).length=n* 3:=by rw[yu,O]
 have ai:cur.toList.length=cap* 3:=by simpa using ac
 obtain⟨A,ay,ak⟩: ∃A:Addr,(if cap=1 then ϊ (⟨g,0,ϋ⟩:Addr) else ϊ ⟨g,3,ϋ⟩)=ϊ A/\ ∀j u,(hdC T)[j]? =ϊ u->w.drew.cell? (A.add j)=ϊ u:=by
  by_cases h1:cap=1
  ·refine⟨⟨g,0,ϋ⟩,by simp[h1],λj u I=> ?_⟩;have aa:(hdC T).length=0:=by rw[d];omega
   rw[K0.1 aa] at I;simp at I
  ·refine⟨⟨g,3,ϋ⟩,by simp[h1],λj u I=> ?_⟩;have aC:j<n* 3:=by rw[<-d];exact(ϟ.1 I).1
   rw[Addr.add_lit];show w.cell? ⟨g,3+j,ϋ⟩=ϊ u;rw[cell_of_row w g _ cur _ (0,0) M];have e:(hdC (h::T))[3+j]? =ϊ u:=by
    rw[gP,Γ (by simp[hd1])]
    simpa [hd1] using I
   rw[<-Y,ο,ϐ τ] at e
   simpa using e
 have ae: ∀H,(Builtin.append_ #[230,230] H #[δ (ϊ ⟨g,0,ϋ⟩) 0 cap,δ (ϊ A) n (cap-1)]).run prog w.drew= .ok (δ (ϊ ⟨g,0,ϋ⟩) n cap) (w.drew.setRow g (hdC T++cur.toList.drop (n* 3)).toArray):=by
  intro H;have:=run_append_room (P:=prog) (w:=w.drew) 230 H 338 ax underlying230 aj g 0 cap cur M A n (cap-1) (hdC T) (by rw[am];exact d) ak (YE T) τ (by rw[d];have:cur.size=cap* 3:=ac;omega);rw[E9,N3,E9,V1,J0,d] at this;exact this
 obtain⟨W1,J⟩: ∃W1,W1=w.drew.setRow g (hdC T++cur.toList.drop (n* 3)).toArray:=⟨_,rfl⟩;have ad:W1.heap[g]? =ϊ (.cells (hdC T++cur.toList.drop (n* 3)).toArray 338 (0,0)):=by rw[J];exact jM (w:=w.drew) M _
 have ah:jt (λk=>k=g) w W1:=by rw[J];exact(show jt (λk=>k=g) w w.drew from jt.of_more (ql.drewN w 1)).trans (jt.setRow w.drew g _)
 have N:(hdC T++cur.toList.drop (n* 3)).length=cap* 3:=by rw[Ϗ,Ϣ,d,ai];omega
 have af: ∀H c,(Builtin.clear_ #[230] H #[δ (ϊ ⟨g,n* 3,ϋ⟩) 1 c]).run prog W1= .ok (.tuple #[]) (W1.setRow g (xO (hdC T++cur.toList.drop (n* 3)) (n* 3) [ι 0,ι 0,ι 0]).toArray):=by
  intro H c;have:=Zi (P:=prog) W1 230 H 338 (θ #[ι 0,ι 0,ι 0]) underlying230 (Gt W1) g (n* 3) 1 c ζ _ ad (by rw[KN];show n* 3+3<=_;rw[G9,N];omega) (by rw[KN];intro v al;simp at al;rw[al];rfl);rw[KN] at this
  simpa using this
 have ao:Hid (zT (W1.setRow g (xO (hdC T++cur.toList.drop (n* 3)) (n* 3) [ι 0,ι 0,ι 0]).toArray) base (δ (ϊ ⟨g,0,ϋ⟩) n cap) T):=κ (by
  refine⟨by rw[yu],ϕ ⟨g,cap,_,by rw[O],ar,jM ad _,τ,ab, ?_, ?_⟩⟩
  ·rw[G9,ut (by rw[N];show n* 3+3<=_;omega),N]
  ·unfold xO;rw[O];simp only[ϭ]
   rw[G6 (by rw[Ϡ,Ϗ,d];omega),V4,Nat.min_self,G6 (by rw[d];exact ϔ _),K6 (by rw[d];exact ϔ _)])
 have an:Hid (jt (λk=>k=g) w (W1.setRow g (xO (hdC T++cur.toList.drop (n* 3)) (n* 3) [ι 0,ι 0,ι 0]).toArray)):=κ (ah.trans (jt.setRow W1 g _));rw[<-J] at ae;have ap:=κ ae;have aq:=κ af;have az:1<=cap:=by omega
 have aE:n+1<=cap:=U;have aA:(cap:Int)<=9223372036854775807:=by unfold maxLen at ab;omega
 generalize W1.setRow g (xO (hdC T++cur.toList.drop (n* 3)) (n* 3) [ι 0,ι 0,ι 0]).toArray=W2 at *;clear ae af ak ag Y ac ai d M ad ah N J ab aj av am aw U;have mixed:prog.follows Departure.mixedOrders=ό:=by kernel_rfl
 have aD:(1:Int)<=(n:Int)+1:=by omega
 go_enter func235,ntmps235
 go_wp2_with fail
 go_region_law_o (refine Jo rfl (.tmp 22) (.tmp 25) 230 230 rfl _ _ (by simp[Act.eval,Act.put]) (by simp[Act.eval,Act.put]) (ap.o _) ?_)
 have af:=aq.o;have aB: ¬cap=n:=by omega
 go_wp2;go_ret;exact⟨_,rfl,ao.o,an.o.mono λk au=>by subst au;rfl,rfl⟩
section
open Go.RowKit Go.Lib
def gO (A B d:List Value):xO (A++B) A.length d=A++(d++B.drop d.length):=by
 unfold xO;rw[T6,ϭ]
 congr 2
 rw[<-T7,T8]
def Et {A Z D X V:List Value} (H:Z.length=V.length):xO (xO (A++(Z++D)) (A.length+Z.length) X) A.length V=A++(V++(X++D.drop X.length)):=by
 have d:xO (A++(Z++D)) (A.length+Z.length) X=A++(Z++(X++D.drop X.length)):=by
  have:=gO (A++Z) D X;rw[Ϗ] at this
  simpa only[ϭ] using this
 rw[d,gO,<-H,T8]
def Bh {A Z D X V:List Value} (d:Z.length=V.length):xO (xO (A++(Z++D)) A.length V) (A.length+V.length) X=A++(V++(X++D.drop X.length)):=by
 rw[gO,<-d,T8];have:=gO (A++V) D X;rw[Ϗ] at this;rw[d]
 simpa only[ϭ] using this
section
variable {P:Program}
def uH
  (N:o.guard=ϋ) (d x:Operand) (H I:TypeId) (O:o.op=Op.call {callee:=Callee.builtin Builtin.copy,args:= #[d,x],argTypes:= #[H,I]})
  (v u:Value) (M:a.eval d=v) (aa:a.eval x=u) (U:(Builtin.copy_ #[H,I] o.type #[v,u]).run P w= .ok v' w') (J:K (a.put o.dst v') w'):
  if Region.wanted o (yielded ops a.tmps)=ό then Oper.wp P o a w K Q else E:=by
 have Y:Region.wanted o (yielded ops a.tmps)=ό:=by simp[Region.wanted,N]
 rw[ϐ Y];unfold Oper.wp;simp[execOp,O,resolve,invoke,builtin,M,aa,U,Result.andThen];exact J
end
def gE (h:Hd):(hd1 h).length=3:=rfl
structure Vh (L:List Hd) (h:Hd) (v:Value) (base:Nat) (w:World) (vb:Nat):Prop where
 row:zT w base v L
 base:base<=w.heap.size
 len:L.length<=1000
 one:w.heap[vb]? =ϊ (.cells #[.int .i64 h.1,.int .i64 h.2.1,.int .i64 h.2.2] 338 (0,0))
 ne:v.ownBlock≠ϊ vb
def JS (L:List Hd) (i:Nat) (h:Hd) (v:Value) (base:Nat) (w:World) (e:Ending) (w':World):Prop:=
 ∃v',e= .returned v'/\zT w' base v' (L.take i++h::L.drop i)/\jt (λk=>v.ownBlock=ϊ k) w w'/\(v'.ownBlock=v.ownBlock∨v'.ownBlock=ϊ w.heap.size)
def Qw {h:Hd} {vb:Nat} (d:w.heap[vb]? =ϊ (.cells #[ι h.1,ι h.2.1,ι h.2.2] 338 (0,0))): ∀j u,(hd1 h)[j]? =ϊ u->w.cell? ((⟨vb,0,ϋ⟩:Addr).add j)=ϊ u:=by
 intro j u H;rw[Addr.add_lit,E9,cell_of_row w vb j _ _ (0,0) d]
 simpa [hd1] using H
def YF (h:Hd): ∀u∈hd1 h,u.oneCell'=ό:=by
 intro u d;simp[hd1] at d;rcases d with rfl | rfl | rfl<;>rfl
def Wj (L:List Hd) (h:Hd) (v:Value) (base:Nat) (w:World) (vb:Nat) (ok:Vh L h v base w vb):
  Calls prog 249 #[v,ι L.length,δ (ϊ ⟨vb,0,ϋ⟩) 1 1] w (JS L L.length h v base w):=by
 obtain⟨row,aj,av,I,ac⟩:=ok;obtain⟨aq,H,O,U,Y⟩:=info_parts (P:=prog) (e:=338) (z:= θ #[ι 0,ι 0,ι 0]) (size:=3) (bytes:=24) ξ;obtain⟨v',w',N,M,d,_,J⟩: ∃v' w',(∀ad,(Builtin.append_ #[230,230] ad #[v,δ (ϊ ⟨vb,0,ϋ⟩) 1 1]).run prog w= .ok v' w')/\w'.ownsRow base 338 3 v' (L.length+1) (hdC L++hd1 h)/\w.grownBy w' v.ownBlock/\True/\(v'.ownBlock=v.ownBlock∨v'.ownBlock=ϊ w.heap.size):=by
  obtain⟨v',w',af,ag,ah,_,ai⟩:=run_append_own_at (P:=prog) (w:=w) base 230 0 338 aq (θ #[ι 0,ι 0,ι 0]) 3 24 underlying230 H O U Y rfl ζ v L.length (hdC L) row ⟨vb,0,ϋ⟩ 1 1 (hd1 h) rfl (Qw I) (YF h) (by unfold maxLen;omega) τ aj;exact⟨v',w',λad=>af,ag,ah,trivial,ai⟩
 have aa:Hid (JS L L.length h v base w (.returned v') w'):=κ ⟨v',rfl,by
  unfold zT;rw[ϱ,List.drop_length,uT,Ϗ]
  exact M,⟨d.os,d.tape,d.output,d.size,λk am ao=>d.block k am (λe=>ao e.symm)⟩,J⟩
 have ab:=κ N;rcases row with ⟨_,⟨rfl,ae⟩ | ⟨g,cap,cur,rfl,ar,al,an,au,ak,ap⟩⟩
 ·rw[ae] at *;clear N M d J I H O U Y ac
  go_enter func249,ntmps249
  go_wp2_with (at_builtin;refine Lib.wpList_append_run _ rfl _ _ _ _ rfl _ _ rfl rfl _ _ (ab.o _) ?_)
  go_ret;exact aa.o
 ·have aw:L.length<=cap:=an;clear N M d J I H O U Y ac al ak ap
  go_enter func249,ntmps249
  go_wp2_with (at_builtin;refine Lib.wpList_append_run _ rfl _ _ _ _ rfl _ _ rfl rfl _ _ (ab.o _) ?_)
  all_goals (go_ret;exact aa.o)
end
section
open Go.RowKit Go.Lib
def Uq {C:List Value} {i:Nat} (hi:i<L.length) (I:C.take (L.length* 3)=hdC L) (J:L.length* 3<=C.length):
  ∃Z R,C=hdC (L.take i)++(Z++R)/\Z.length=3/\(hdC (L.take i)).length=i* 3:=by
 have d:(hdC (L.take i)).length=i* 3:=by rw[yu,Ϡ];congr 1;omega
 have e:C.take (i* 3)=hdC (L.take i):=by
  have H:C.take (i* 3)=(C.take (L.length* 3)).take (i* 3):=by
   rw[V4];congr 1;have:i* 3<=L.length* 3:=A8 3 τ;omega
  rw[H,I]
  conv=>lhs;rw[<-B6 i L,uT]
  rw[<-d,T6]
 refine⟨(C.drop (i* 3)).take 3,(C.drop (i* 3)).drop 3, ?_, ?_,d⟩
 ·rw[B6,<-e,B6]
 ·have:i* 3+3<=L.length* 3:=by
   have:=A8 3 (show i+1<=L.length from hi);omega
  rw[Ϡ,Ϣ];omega
def VM {i:Nat} {h:Hd} {D:List Value} (hi:i<L.length):
  (hdC (L.take i)++(hd1 h++(hdC (L.drop i)++D))).take ((L.length+1)* 3)=hdC (L.take i++h::L.drop i):=by
 have e:hdC (L.take i++h::L.drop i)=hdC (L.take i)++(hd1 h++hdC (L.drop i)):=by rw[uT,gP]
 have d:(hdC (L.take i++h::L.drop i)).length=(L.length+1)* 3:=by
  rw[yu,Ϗ,ϙ,Ϡ,Ϣ];congr 1;omega
 rw[<-d];have:hdC (L.take i)++(hd1 h++(hdC (L.drop i)++D))=hdC (L.take i++h::L.drop i)++D:=by rw[e];simp only[ϭ]
 rw[this,T6]
def YU (w:World) (g vb cap o k lb H:Nat) (cur I:Array Value) (M:w.heap[g]? =ϊ (.cells cur 338 (0,0))) (J:cur.size≠0) (d:w.heap[vb]? =ϊ (.cells I 338 (0,0))) (N:vb≠g):
  (callFunc 283 #[δ (ϊ ⟨vb,0,ϋ⟩) 1 1,δ (ϊ ⟨g,o,ϋ⟩) lb H]).run prog w= .ok (.value (μ ύ)) w:=by
 rw[run_callFunc_extern func283 ξ ξ ξ (e:=Extern.SlicesOverlaps.overlaps #[230,230] #[4]) ξ,
  Lib.run_overlaps_apart w 230 4 338 underlying230 3 (λw=>by kernel_rfl) ⟨vb,0,ϋ⟩ ⟨g,o,ϋ⟩ 1 1 lb H N 338 338 I.size cur.size (by simp[World.shape?,d]) (by simp[World.shape?,M]) J (yw d 0) (yw d _)]
 rfl
def Vb (L:List Hd) (i:Nat) (hi:i<L.length) (h:Hd) (base:Nat) (w:World) (vb g cap:Nat) (ok:Vh L h (δ (ϊ ⟨g,0,ϋ⟩) L.length cap) base w vb) (aw:L.length+1<=cap):
  Calls prog 249 #[δ (ϊ ⟨g,0,ϋ⟩) L.length cap,ι i,δ (ϊ ⟨vb,0,ϋ⟩) 1 1] w (JS L i h (δ (ϊ ⟨g,0,ϋ⟩) L.length cap) base w):=by
 obtain⟨row,aL,ao,ag,ar⟩:=ok;obtain⟨aG,⟨aC,_⟩ | ⟨g',aJ,cur,e,aE,J,aq,ac,an,aj⟩⟩:=row
 ·cases aC
 cases e;have au:vb≠g:=λe=>ar (by rw[e];rfl)
 obtain⟨ay,ae,aH,ak,aI⟩:=info_parts (P:=prog) (e:=338) (z:= θ #[ι 0,ι 0,ι 0]) (size:=3) (bytes:=24) ξ;have ab:cur.toList.length=cap* 3:=by simpa using an
 obtain⟨Z,R,am,Y,U⟩:=Uq hi aj τ;have I:(hdC (L.drop i)).length=(L.length-i)* 3:=by rw[yu,Ϣ]
 obtain⟨n,af⟩:=ν (L.length);have aD:=λ(o lb aB:Nat)=>YU w g vb cap o 0 lb aB cur _ J τ ag au
 have ah: ∀H d sc,(Builtin.copy_ #[230,230] H #[δ (ϊ ⟨g,(i+1)* 3,ϋ⟩) (n-i) d,δ (ϊ ⟨g,i* 3,ϋ⟩) (n+1-i) sc]).run prog w.drew= .ok (ι ((n-i:Nat):Int)) (w.drew.setRow g (xO cur.toList ((i+1)* 3) (hdC (L.drop i))).toArray):=by
  intro H d sc;have M:Nat.min (n+1-i) (n-i)=n-i:=by simp only[X4];split<;>omega
  have:=yN (P:=prog) w.drew 230 H 338 ay underlying230 ae g ((i+1)* 3) (n-i) d cur J ⟨g,i* 3,ϋ⟩ (n+1-i) sc (hdC (L.drop i)) (by rw[M,ak,I,af]) (by
   intro j u ax;rw[Addr.add_lit];show w.cell? ⟨g,i* 3+j,ϋ⟩=ϊ u;rw[cell_of_row w g _ cur _ (0,0) J];have aN:j<(L.length-i)* 3:=by rw[<-I];exact(ϟ.1 ax).1
   have e:(hdC L)[i* 3+j]? =ϊ u:=by
    conv=>lhs;rw[<-B6 i L,uT]
    rw[Γ τ,U,Q5];exact ax
   rw[<-aj,ο,ϐ τ] at e
   simpa using e) (by rw[I];omega) (YE _)
  rw[M] at this;rw[this];rfl
 obtain⟨W1,N⟩: ∃W1,W1=w.drew.setRow g (xO cur.toList ((i+1)* 3) (hdC (L.drop i))).toArray:=⟨_,rfl⟩;have ad:W1.heap[g]? =ϊ (.cells (xO cur.toList ((i+1)* 3) (hdC (L.drop i))).toArray 338 (0,0)):=by rw[N];exact jM (w:=w.drew) J _
 have aa:jt (λk=>k=g) w W1:=by rw[N];exact(show jt (λk=>k=g) w w.drew from jt.of_more (ql.drewN w 1)).trans (jt.setRow w.drew g _)
 have O:(xO cur.toList ((i+1)* 3) (hdC (L.drop i))).length=cap* 3:=by rw[ut (by rw[I,ab];omega),ab]
 have av:=aa.blk ag au;have ai: ∀H d,(Builtin.copy_ #[230,230] H #[δ (ϊ ⟨g,i* 3,ϋ⟩) (n+1-i) d,δ (ϊ ⟨vb,0,ϋ⟩) 1 1]).run prog W1= .ok (ι 1) (W1.setRow g (xO (xO cur.toList ((i+1)* 3) (hdC (L.drop i))) (i* 3) (hd1 h)).toArray):=by
  intro H d;have M:Nat.min 1 (n+1-i)=1:=by simp only[X4];split<;>omega
  have:=yN (P:=prog) W1 230 H 338 ay underlying230 ae g (i* 3) (n+1-i) d _ ad ⟨vb,0,ϋ⟩ 1 1 (hd1 h) (by rw[M,ak];rfl) (Qw av) (by rw[G9,O,gE];omega) (YF h);rw[M] at this;rw[this];rfl
 have al:Hid (JS L i h (δ (ϊ ⟨g,0,ϋ⟩) L.length cap) base w (.returned (δ (ϊ ⟨g,0,ϋ⟩) (n+1) cap)) (W1.setRow g (xO (xO cur.toList ((i+1)* 3) (hdC (L.drop i))) (i* 3) (hd1 h)).toArray)):=κ (by
  have ap:(L.take i++h::L.drop i).length=n+1:=by rw[Ϗ,ϙ,Ϡ,Ϣ];omega
  refine⟨_,rfl,⟨by rw[yu],ϕ ⟨g,cap,_,by rw[ap],aE,jM ad _,τ,ac, ?_, ?_⟩⟩,(aa.trans (jt.setRow W1 g _)).mono λk aF=>by subst aF;rfl,ϑ rfl⟩
  ·rw[G9,ut (by rw[O,gE];omega),O]
  ·have:=Et (A:=hdC (L.take i)) (Z:=Z) (D:=R) (X:=hdC (L.drop i)) (V:=hd1 h) (by rw[Y];rfl);rw[Y,U,<-am,show i* 3+3=(i+1)* 3 by omega] at this;rw[ap,<-af];simp only[this]
   exact VM hi)
 rw[<-N] at ah;generalize W1.setRow g (xO (xO cur.toList ((i+1)* 3) (hdC (L.drop i))) (i* 3) (hd1 h)).toArray=W2 at *;rw[af] at aw ao aq al ⊢;have az:=κ ah;have aA:=κ ai;have mixed:prog.follows Departure.mixedOrders=ό:=by kernel_rfl
 have aP:IntKind.i64.wrap ((i:Int)+1)=(i:Int)+1:=by rw[IntKind.wrap_i64];omega
 have aK:(0:Int)<=(i:Int)+1:=by omega
 have aO:((i:Int)+1).toNat=i+1:=by omega
 have aQ:(i:Int)<=(n:Int):=by omega
 have aR: ¬(cap:Int)<(n:Int)+1:=by omega
 have aS:(n:Int)<=1000:=by omega
 have aT:(i:Int)+1<=(n:Int)+1:=by omega
 have aU: ¬cap=i:=by omega
 have aV: ¬cap=i+1:=by omega
 have aW:(i:Int)<=(n:Int)+1:=by omega
 have aM:(cap:Int)<=9223372036854775807:=by unfold maxLen at ac;omega
 clear ah ai ab I ad aa O av ag J an aj aG ae aH ak aI am Y U N ar aw aq ao ac
 go_enter func249,ntmps249
 go_wp2_with (simp only[aD])
 go_region_law_o (refine uH rfl (.tmp 73) (.tmp 76) 230 230 rfl _ _ (by simp[Act.eval,Act.put]) (by simp[Act.eval,Act.put]) (az.o _ (cap-(i+1)) (cap-i)) ?_)
 have ai:=aA.o;go_wp2;go_ret;exact al.o
end
section
open Go.RowKit Go.Lib
def Rw (L:List Hd) (i:Nat) (hi:i<L.length) (h:Hd) (base:Nat) (w:World) (vb g cap:Nat) (ok:Vh L h (δ (ϊ ⟨g,0,ϋ⟩) L.length cap) base w vb) (bj:cap<L.length+1):
  Calls prog 249 #[δ (ϊ ⟨g,0,ϋ⟩) L.length cap,ι i,δ (ϊ ⟨vb,0,ϋ⟩) 1 1] w (JS L i h (δ (ϊ ⟨g,0,ϋ⟩) L.length cap) base w):=by
 obtain⟨row,bi,aY,aK,bb⟩:=ok;obtain⟨bc,⟨aS,_⟩ | ⟨g',bd,cur,e,bg,au,ba,aU,aV,aN⟩⟩:=row
 ·cases aS
 cases e;obtain⟨aj,ag,aO,aa,aC⟩:=info_parts (P:=prog) (e:=338) (z:= θ #[ι 0,ι 0,ι 0]) (size:=3) (bytes:=24) ξ;obtain⟨n,aA⟩:=ν (L.length);have U:(hdC (L.take i)).length=i* 3:=by rw[yu,Ϡ];congr 1;omega
 have af:(hdC (L.drop i)).length=(n-i)* 3:=by rw[yu,Ϣ,aA]
 have ar: ∀j u,(hdC L)[j]? =ϊ u->w.cell? ⟨g,j,ϋ⟩=ϊ u:=by
  intro j u J;rw[cell_of_row w g _ cur _ (0,0) au];have aW:j<L.length* 3:=by rw[<-yu];exact(ϟ.1 J).1
  rw[<-aN,ο,ϐ aW] at J
  simpa using J
 have holds: ∀j u,(hdC (L.take i))[j]? =ϊ u->w.cell? ((⟨g,0,ϋ⟩:Addr).add j)=ϊ u:=by
  intro j u J;rw[Addr.add_lit,E9];refine ar j u ?_
  conv=>lhs;rw[<-B6 i L,uT]
  rw[Θ (ϟ.1 J).1];exact J
 have aM: ∀j u,(hdC (L.drop i))[j]? =ϊ u->w.cell? ((⟨g,i* 3,ϋ⟩:Addr).add j)=ϊ u:=by
  intro j u J;rw[Addr.add_lit];refine ar _ u ?_
  conv=>lhs;rw[<-B6 i L,uT]
  rw[Γ τ,U,Q5];exact J
 have aJ:(Builtin.firstCells aj.size i (δ (ϊ ⟨g,0,ϋ⟩) i cap)).run prog w.drew= .ok (hdC (L.take i)).toArray w.drew:=by
  rw[aa];exact run_firstCells_some (w:=w.drew) 3 i ⟨g,0,ϋ⟩ i cap (hdC (L.take i)) U holds
 have ax:i+(n+1-i)=n+1:=by omega
 have aH:(n:Int)+1-(i:Int)=((n+1-i:Nat):Int):=by omega
 obtain⟨G,ab⟩: ∃G,G=grownCap w (n+1) cap 338:=⟨_,rfl⟩;obtain⟨H,ap⟩: ∃H:Array Value,H=(hdC (L.take i)).toArray++Builtin.zeroCells (θ #[ι 0,ι 0,ι 0]).cells (n+1-i)++Builtin.zeroCells (θ #[ι 0,ι 0,ι 0]).cells (G-(n+1)):=⟨_,rfl⟩;have aB: ∀I,(Builtin.append_ #[230,3] I #[δ (ϊ ⟨g,0,ϋ⟩) i cap,ι ((n:Int)+1-(i:Int))]).run prog w= .ok (δ (ϊ ⟨w.heap.size,0,ϋ⟩) (n+1) G) (w.drew.alloc (.cells H 338)):=λI=>by
  have h:=Lib.run_append_grow_zeros (P:=prog) w 230 3 I 338 aj _ .i64 .i64 underlying230 underlying3 ag aO (ϊ ⟨g,0,ϋ⟩) i cap (hdC (L.take i)) aJ (n+1-i) τ (by rw[aa];decide) τ τ (by rw[aC];omega) (by rw[aC,ax];exact growslice_fits τ τ);rw[ax,<-ab,<-ap] at h;rw[aH];exact h
 have bf:n+1<=G:=by rw[ab];exact grownCap_ge w _ _ _
 have ak:G<=maxLen:=by rw[ab];exact grownCap_le_maxLen w (n+1) cap 338 (by unfold maxLen;omega)
 obtain⟨O,aq⟩:=ν ((Builtin.zeroCells (θ #[ι 0,ι 0,ι 0]).cells (n+1-i)).toList);have aF:O.length=(n+1-i)* 3:=by rw[<-aq,M6,size_zeroCells];rfl
 obtain⟨N,an⟩:=ν ((Builtin.zeroCells (θ #[ι 0,ι 0,ι 0]).cells (G-(n+1))).toList);have aE:N.length=(G-(n+1))* 3:=by rw[<-an,M6,size_zeroCells];rfl
 have ao:H.toList=hdC (L.take i)++(O++N):=by
  rw[ap,W4,W4,aq,an,ϭ]
 obtain⟨Z,D,aG,aT⟩: ∃Z D,O++N=Z++D/\Z.length=3:=⟨(O++N).take 3,(O++N).drop 3,(B6 3 _).symm,by rw[Ϡ,Ϗ];omega⟩;have ac:H.toList.length=G* 3:=by rw[ao,Ϗ,Ϗ,U,aF,aE];omega
 obtain⟨d,am⟩:=ν (w.heap.size);obtain⟨W1,ad⟩: ∃W1,W1=w.drew.alloc (.cells H 338):=⟨_,rfl⟩;have av:W1.heap[d]? =ϊ (.cells H 338 (0,0)):=by rw[ad];exact qC (w:=w.drew) am.symm
 have ay:ql w W1:=by rw[ad];exact(ql.drewN w 1).al _
 have ai: ∀I M,(Builtin.copy_ #[230,230] I #[δ (ϊ ⟨d,i* 3,ϋ⟩) (n+1-i) M,δ (ϊ ⟨vb,0,ϋ⟩) 1 1]).run prog W1= .ok (ι 1) (W1.setRow d (xO H.toList (i* 3) (hd1 h)).toArray):=by
  intro I M;have Y:Nat.min 1 (n+1-i)=1:=by simp only[X4];split<;>omega
  have:=yN (P:=prog) W1 230 I 338 aj underlying230 ag d (i* 3) (n+1-i) M H av ⟨vb,0,ϋ⟩ 1 1 (hd1 h) (by rw[Y,aa];rfl) (Qw (qq ay aK)) (by rw[gE,<-M6,ac];omega) (YF h);rw[Y] at this;rw[this];rfl
 obtain⟨W2,ae⟩: ∃W2,W2=W1.setRow d (xO H.toList (i* 3) (hd1 h)).toArray:=⟨_,rfl⟩;have aw:W2.heap[d]? =ϊ (.cells (xO H.toList (i* 3) (hd1 h)).toArray 338 (0,0)):=by rw[ae];exact jM av _
 have az:ql w W2:=by rw[ae];exact(jt.setRow W1 d _).to_more ay (λk aX=>by omega)
 have ah:(xO H.toList (i* 3) (hd1 h)).length=G* 3:=by rw[ut (by rw[gE,ac];omega),ac]
 have aL: ∀I M sc,(Builtin.copy_ #[230,230] I #[δ (ϊ ⟨d,(i+1)* 3,ϋ⟩) (n-i) M,δ (ϊ ⟨g,i* 3,ϋ⟩) (n-i) sc]).run prog W2.drew= .ok (ι ((n-i:Nat):Int)) (W2.drew.setRow d (xO (xO H.toList (i* 3) (hd1 h)) ((i+1)* 3) (hdC (L.drop i))).toArray):=by
  intro I M sc;have Y:Nat.min (n-i) (n-i)=n-i:=Nat.min_self _
  have:=yN (P:=prog) W2.drew 230 I 338 aj underlying230 ag d ((i+1)* 3) (n-i) M _ aw ⟨g,i* 3,ϋ⟩ (n-i) sc (hdC (L.drop i)) (by rw[Y,aa,af]) (by
   intro j u J;have:=aM j u J;rw[Addr.add_lit] at this ⊢;show W2.cell? _=_;rw[az.cells g _ (lt_of_block au)]
   exact this) (by rw[G9,ah,af];omega) (YE _)
  rw[Y] at this;rw[this];rfl
 have aD:Hid (JS L i h (δ (ϊ ⟨g,0,ϋ⟩) L.length cap) base w (.returned (δ (ϊ ⟨d,0,ϋ⟩) (n+1) G)) (W2.drew.setRow d (xO (xO H.toList (i* 3) (hd1 h)) ((i+1)* 3) (hdC (L.drop i))).toArray)):=κ (by
  have aI:(L.take i++h::L.drop i).length=n+1:=by rw[Ϗ,ϙ,Ϡ,Ϣ];omega
  have aZ:ql w (W2.drew.setRow d (xO (xO H.toList (i* 3) (hd1 h)) ((i+1)* 3) (hdC (L.drop i))).toArray):=(jt.setRow W2.drew d _).to_more (az.trans (ql.drewN W2 1)) (λk aX=>by omega);refine⟨_,rfl,⟨by rw[yu],ϕ ⟨d,G,_,by rw[aI],τ,jM (w:=W2.drew) aw _,τ,ak, ?_, ?_⟩⟩,jt.of_more aZ,ϕ (by rw[am];rfl)⟩
  ·rw[G9,ut (by rw[ah,af];omega),ah]
  ·have:=Bh (A:=hdC (L.take i)) (Z:=Z) (D:=D) (X:=hdC (L.drop i)) (V:=hd1 h) (by rw[aT];rfl);rw[gE,U,<-aG,<-ao,show i* 3+3=(i+1)* 3 by omega] at this;rw[aI,<-aA];simp only[this]
   exact VM hi)
 rw[am,<-ad] at aB;rw[<-ae] at ai;generalize W2.drew.setRow d (xO (xO H.toList (i* 3) (hd1 h)) ((i+1)* 3) (hdC (L.drop i))).toArray=W3 at *;rw[aA] at aD ⊢;have aR:=κ aB;have aP:=κ ai;have aQ:=κ aL;have mixed:prog.follows Departure.mixedOrders=ό:=by kernel_rfl
 have bl:IntKind.i64.wrap ((i:Int)+1)=(i:Int)+1:=by rw[IntKind.wrap_i64];omega
 have bh:(0:Int)<=(i:Int)+1:=by omega
 have bk:((i:Int)+1).toNat=i+1:=by omega
 have bn:(i:Int)<=(n:Int):=by omega
 have bo:(cap:Int)<(n:Int)+1:=by omega
 have bp:(n:Int)<=1000:=by omega
 have bq:(i:Int)+1<=(n:Int)+1:=by omega
 have br: ¬cap=i:=by omega
 have bs: ¬G=i:=by omega
 have bt: ¬G=i+1:=by omega
 have bu:(i:Int)<=(n:Int)+1:=by omega
 have bm:(i:Int)<=(cap:Int):=by omega
 have be:(G:Int)<=9223372036854775807:=by unfold maxLen at ak;omega
 clear aB ai aL af av aw ay az ah aK au aV aN bc ag aO aa aC aG U ad ae bb ba aY aU ar holds aM aJ ab ap ao ac aq an aF aE aH ax ak
 go_enter func249,ntmps249
 go_wp2_with (at_builtin;refine Lib.wpList_append_run _ rfl _ _ _ _ rfl _ _ rfl rfl _ _ (aR.o _) ?_;have ai:=aP.o)
 go_region_law_o (refine uH rfl (.tmp 50) (.tmp 53) 230 230 rfl _ _ (by simp[Act.eval,Act.put]) (by simp[Act.eval,Act.put]) (aQ.o _ (G-(i+1)) (cap-i)) ?_)
 go_wp2;go_ret;exact aD.o
end
section
open Go.RowKit Go.Lib
def Wk (L:List Hd) (i:Nat) (hi:i<=L.length) (h:Hd) (v:Value) (base:Nat) (w:World) (vb:Nat) (d:Vh L h v base w vb):
  Calls prog 249 #[v,ι i,δ (ϊ ⟨vb,0,ϋ⟩) 1 1] w (JS L i h v base w):=by
 by_cases e:i=L.length
 ·subst e;exact Wj L h v base w vb d
 ·rcases d.row.2 with ⟨_,H⟩ | ⟨g,cap,_,rfl,_⟩
  ·omega
  ·by_cases hc:L.length+1<=cap
   ·exact Vb L i τ h base w vb g cap d hc
   ·exact Rw L i τ h base w vb g cap d τ
structure Jb where
 room:Int
 wait:Int
 holds:List Hd
 begun:Bool
 hi:Int
 bits:Int
def yc (b:Jb) (v:Value):Array Value:= #[.int .i64 b.room,.int .i64 b.wait,v,.bool b.begun,.int .i64 b.hi,.int .u64 b.bits]
structure xZ (w:World) (R:Nat) (v:Value) (b:Jb):Prop where
 blk:w.heap[R]? =ϊ (.cells (yc b v) 235 (0,0))
 row:zT w (R+1) v b.holds
def xZ.on {b:Jb} (h:xZ w R v b) (m:ql w w'):xZ w' R v b:=⟨qq m h.blk,h.row.more m⟩
def xZ.cells {b:Jb} (h:xZ w R v b): ∀x:qt w,x.w'.cell? ⟨R,0,ϋ⟩=ϊ (ι b.room)/\x.w'.cell? ⟨R,1,ϋ⟩=ϊ (ι b.wait)/\x.w'.cell? ⟨R,2,ϋ⟩=ϊ v/\x.w'.cell? ⟨R,3,ϋ⟩=ϊ (μ b.begun)/\x.w'.cell? ⟨R,4,ϋ⟩=ϊ (ι b.hi)/\x.w'.cell? ⟨R,5,ϋ⟩=ϊ (ψ b.bits):=λx=>
 have k:=qq x.h h.blk
 ⟨qm k 0 rfl,qm k 1 rfl,qm k 2 rfl,qm k 3 rfl,qm k 4 rfl,qm k 5 rfl⟩
abbrev xz (n:Int):Prop:=0<=n/\n<=1152921504606846976
structure JOK (b:Jb):Prop where
 room:1<=b.room/\b.room<=8
 wait:0<=b.wait/\b.wait<=1000
 fits:(b.holds.length:Int)<=b.room
 nums: ∀h∈b.holds,xz h.1/\xz h.2.1
 rise:b.holds.Pairwise λa c=>a.1<c.1
 hi:xz b.hi
 bits:U64 b.bits
 over:b.begun=ό-> ∀h∈b.holds,b.hi<h.1
def Dp (n:Int) (B:Nat) (x:Hd) (w:World) (d:w.heap[B]? =ϊ (.cells #[ι n] 2 (0,0))):
  Calls prog 246 #[θ #[ι x.1,ι x.2.1,ι x.2.2],γ B] w λe w'=>e= .returned (μ (x.1==n))/\ql w w':=by
 obtain⟨H,I,J⟩:=x;have M:(w.alloc (.cells #[ι H,ι I,ι J] 338)).cell? ⟨B,0,ϋ⟩=ϊ (ι n):=qm (qs d _) 0 rfl;clear d
 go_enter func246,ntmps246
 go_wp2;go_ret;exact⟨rfl,ql.alloc _ _⟩
def Wp (n:Int) (B:Nat) (x:Hd) (w:World) (d:w.heap[B]? =ϊ (.cells #[ι n] 2 (0,0))):
  Calls prog 247 #[θ #[ι x.1,ι x.2.1,ι x.2.2],γ B] w λe w'=>e= .returned (μ (decide (n<x.1)))/\ql w w':=by
 obtain⟨H,I,J⟩:=x;have M:(w.alloc (.cells #[ι H,ι I,ι J] 338)).cell? ⟨B,0,ϋ⟩=ϊ (ι n):=qm (qs d _) 0 rfl;clear d
 go_enter func247,ntmps247
 go_wp2;go_ret;exact⟨rfl,ql.alloc _ _⟩
def ux (b:Jb) (R:Nat) (v:Value) (w:World) (h:xZ w R v b) (d:xz b.hi):
  Calls prog 172 #[γ R] w λe w'=>e= .returned (.tuple #[ι (if b.begun then b.hi+1 else 0),b.begun])/\w=w':=by
 obtain⟨H,c1,c2,c3,c4,c5⟩:=h.cells ⟨w,ql.refl _⟩;obtain⟨I,J⟩:=d;clear h;cases hb:b.begun with
 | true=>
  rw[hb] at c3
  go_enter func172,ntmps172
  go_wp2
  go_ret2
  exact⟨rfl,rfl⟩
 | false=>
  rw[hb] at c3
  go_enter func172,ntmps172
  go_wp2
  go_ret2
  exact⟨rfl,rfl⟩
end
section
open Go.RowKit Go.Lib
def zX (b:Jb) (now:Int) (h:Hd):Bool:=decide (b.wait<=now-h.2.1)
def xa (b:Jb) (now:Int):Bool:=match b.holds with
 | []=>ύ
 | h::_=> !b.begun||h.1==b.hi+1||decide (b.room<=b.holds.length)||b.holds.any (zX b now)
def U7 (b:Jb) (R:Nat) (v:Value) (I:Int) (af:xz I) (U O:Nat) (x:Hd) (ah:xz x.2.1) (w:World) (h:xZ w R v b)
  (aa:w.heap[U]? =ϊ (.cells #[ι I] 2 (0,0))) (Y:w.heap[O]? =ϊ (.cells #[γ R] 131 (0,0))):
  Calls prog 171 #[θ #[ι x.1,ι x.2.1,ι x.2.2],γ U,γ O] w λe w'=>e= .returned (μ (zX b I x))/\ql w w':=by
 obtain⟨J,M,N⟩:=x;obtain⟨ad,ae⟩:=ah;obtain⟨ak,al⟩:=af;simp only at ad ae;have d:=ql.alloc w (.cells #[ι J,ι M,ι N] 338);obtain⟨W,H⟩: ∃W,W=w.alloc (.cells #[ι J,ι M,ι N] 338):=⟨_,rfl⟩;have ab:W.heap[w.heap.size]? =ϊ (.cells #[ι J,ι M,ι N] 338 (0,0)):=by rw[H];exact qj w _
 rw[<-H] at d;have c1: ∀x:qt W,x.w'.cell? ⟨R,1,ϋ⟩=ϊ (ι b.wait):=λx=>((h.on d).cells x).2.1
 have c3:=λ(x:qt W)=>β0 (qq (d.trans x.h) aa)
 have c2:=λ(x:qt W)=>β0 (qq (d.trans x.h) Y)
 have aj:=λ(x:qt W)=>β1 (qq x.h ab)
 have ac:=κ d;clear h aa Y ab d
 go_enter func171,ntmps171
 go_wp2_with fail
 rw[<-H];clear H;generalize w.heap.size=BX at *;refine qD W (ql.refl _) ξ ξ ?_
 repeat (go_big_quiet_step (fail))
 refine wpQuiet_nil ?_;intro _ ag;obtain⟨ai,rfl⟩:=ag;go_wp2;go_ret;exact⟨rfl,ac.o.trans ai.h⟩
def Z7 (b:Jb) (ok:JOK b) (R:Nat) (v:Value) (d:Int) (aD:xz d) (w:World) (h:xZ w R v b):
  Calls prog 119 #[γ R,ι d] w λe w'=>e= .returned (μ (xa b d))/\ql w w':=by
 obtain⟨W,H⟩: ∃W,W=(w.alloc (.cells #[γ R] 131)).alloc (.cells #[ι d] 2):=⟨_,rfl⟩;have ak:ql w W:=by rw[H];exact(ql.alloc w _).al _
 have ah:W.heap[w.heap.size]? =ϊ (.cells #[γ R] 131 (0,0)):=by rw[H];exact qs (qj w _) _
 have ao:W.heap[w.heap.size+1]? =ϊ (.cells #[ι d] 2 (0,0)):=by rw[H];exact qC η
 have J:=κ (h.on ak);have aH: ∀x:qt W,x.w'.cell? ⟨R,0,ϋ⟩=ϊ (ι b.room):=λx=>(J.o.cells x).1
 have c2: ∀x:qt W,x.w'.cell? ⟨R,2,ϋ⟩=ϊ v:=λx=>(J.o.cells x).2.2.1
 have ap:W.cell? ⟨R,2,ϋ⟩=ϊ v:=(J.o.cells ⟨W,ql.refl _⟩).2.2.1;have ay:=λ(x:qt W)=>β0 (qq x.h ah)
 have aJ:w.heap.size≠R:=λe=>by have:=lt_of_block h.blk;omega
 have ad:=κ ak;have O:=κ J.o.row;have am:Hid (ZA 171 #[γ (w.heap.size+1),γ w.heap.size] (zX b d) b.holds W):=κ λW' x aq m=>
  U7 b R v d aD _ _ x (ok.nums x aq).2 W' (J.o.on m) (qq m ao) (qq m ah)
 obtain⟨av,cap,rfl,aB⟩:=J.o.row.shape;obtain⟨aN,aO⟩:=ok.room;have az:=ok.fits;obtain⟨ai,aj⟩:=ok.hi;clear h;have I:Hid (xZ ((w.alloc (.cells #[γ R] 131)).alloc (.cells #[ι d] 2)) R (δ av b.holds.length cap) b):=κ (H▸J.o);have ab:((w.alloc (.cells #[γ R] 131)).alloc (.cells #[ι d] 2)).cell? ⟨R,2,ϋ⟩=ϊ (δ av b.holds.length cap):=H▸ap;cases hbh:b.holds with
 | nil=>
  have ae:xa b d=ύ:=by unfold xa;rw[hbh]
  have M:=κ ae;have aw:Hid (ql w ((w.alloc (.cells #[γ R] 131)).alloc (.cells #[ι d] 2))):=κ (H▸ad.o);rw[hbh,ϧ] at ab;clear ae am O ah ao ak c2 ap ay H
  go_enter func119,ntmps119
  go_wp2;go_ret;exact⟨by rw[M.o];rfl,aw.o⟩
 | cons k T=>
  have aC:b.holds.length=T.length+1:=by rw[hbh];rfl
  obtain⟨g,aI,e,aA,aM,au⟩:=O.o.cell 0 τ;cases e;have aK: ∀x:qt W,x.w'.cell? ⟨g,0,ϋ⟩=ϊ (ι k.1):=λx=>by
   have:=(au _ x.h).1;rw[N3,hbh] at this;exact this
  have ae:xa b d=(!b.begun||k.1==b.hi+1||decide (b.room<=b.holds.length)||b.holds.any (zX b d)):=by unfold xa;rw[hbh]
  have M:=κ ae;have aE: ¬(b.holds.length:Int)=0:=by omega
  have aF:(0:Int)<(b.holds.length:Int):=by omega
  clear ae au ah ao ak ap hbh aC aA;obtain⟨an,ar⟩:=ν (b.holds.length);rw[ar] at c2 ab M aE aF aB az I O;clear ar;generalize k.1=K1 at *;have ag:Hid (∀W',ql W W'->ZA 171 #[γ (w.heap.size+1),γ w.heap.size] (zX b d) b.holds W'):=κ λW' m ax x aq aG=>am.o ax x aq (m.trans aG)
  have af: ∀args w,(callFunc 171 args).run prog w= .ok (.enter 171 args) w:=λargs w=>by kernel_rfl
  clear am;cases hbg:b.begun with
  | false=>
   have ac:=κ hbg;have N:Hid (xa b d=ό):=κ (by rw[M.o,hbg];rfl);clear hbg M
   go_enter func119,ntmps119
   go_wp2_with (go_at_call 172;(go_call ux b R _ _ I.o ⟨ai,aj⟩ as e w1 ⟨rfl,rfl⟩;rw[ac.o]))
   rw[<-H];clear H I ab;generalize w.heap.size=B2 at *;refine qD W (ql.refl _) ξ ξ ?_
   repeat (go_big_quiet_step ((go_at_call 173;with_reducible exact j6 (xt _ _ (zX b d) af b.holds _ (R+1) _ (O.o.more (qt.h _)) (ag.o _ (qt.h _))))))
   refine wpQuiet_nil ?_;intro _ U;obtain⟨Y,rfl⟩:=U;go_wp2;go_ret;exact⟨by rw[N.o];rfl,ad.o.trans Y.h⟩
  | true=>
   have ac:=κ hbg;have aa:Hid (xa b d=(K1==b.hi+1||decide (b.room<=(an:Int))||b.holds.any (zX b d))):=κ (by rw[M.o,hbg];rfl);clear hbg M;cases hk:(K1==b.hi+1) with
   | true=>
    have N:Hid (xa b d=ό):=κ (by rw[aa.o,hk];rfl);clear aa
    go_enter func119,ntmps119
    go_wp2_with (go_at_call 172;(go_call ux b R _ _ I.o ⟨ai,aj⟩ as e w1 ⟨rfl,rfl⟩;rw[ac.o]))
    rw[<-H];clear H I ab;generalize w.heap.size=B2 at *;refine qD W (ql.refl _) ξ ξ ?_
    repeat (go_big_quiet_step ((go_at_call 173;with_reducible exact j6 (xt _ _ (zX b d) af b.holds _ (R+1) _ (O.o.more (qt.h _)) (ag.o _ (qt.h _))))))
    refine wpQuiet_nil ?_;intro _ U;obtain⟨Y,rfl⟩:=U;go_wp2;go_ret;exact⟨by rw[N.o];rfl,ad.o.trans Y.h⟩
   | false=>
    by_cases hf:b.room<=(an:Int)
    ·have N:Hid (xa b d=ό):=κ (by rw[aa.o,hk,Ϫ hf];rfl);clear aa
     go_enter func119,ntmps119
     go_wp2_with (go_at_call 172;(go_call ux b R _ _ I.o ⟨ai,aj⟩ as e w1 ⟨rfl,rfl⟩;rw[ac.o]))
     rw[<-H];clear H I ab;generalize w.heap.size=B2 at *;refine qD W (ql.refl _) ξ ξ ?_
     repeat (go_big_quiet_step ((go_at_call 173;with_reducible exact j6 (xt _ _ (zX b d) af b.holds _ (R+1) _ (O.o.more (qt.h _)) (ag.o _ (qt.h _))))))
     refine wpQuiet_nil ?_;intro _ U;obtain⟨Y,rfl⟩:=U;go_wp2;go_ret;exact⟨by rw[N.o];rfl,ad.o.trans Y.h⟩
    ·have N:Hid (xa b d=b.holds.any (zX b d)):=κ (by rw[aa.o,hk,Ϩ hf];rfl);have aL:decide (b.room<=(an:Int))=ύ:=Ϩ hf;clear aa hf
     go_enter func119,ntmps119
     go_wp2_with (go_at_call 172;(go_call ux b R _ _ I.o ⟨ai,aj⟩ as e w1 ⟨rfl,rfl⟩;rw[ac.o]))
     rw[<-H];clear H I ab;generalize w.heap.size=B2 at *;refine qD W (ql.refl _) ξ ξ ?_
     repeat (go_big_quiet_step ((go_at_call 173;with_reducible exact j6 (xt _ _ (zX b d) af b.holds _ (R+1) _ (O.o.more (qt.h _)) (ag.o _ (qt.h _))))))
     refine wpQuiet_nil ?_;intro _ U;obtain⟨Y,rfl⟩:=U;go_wp2;go_ret;exact⟨by rw[N.o];rfl,ad.o.trans Y.h⟩
end
section
open Go.RowKit Go.Lib
def wK (b:Jb) (n:Int):Int×Int:=if b.begun then zt b.hi b.bits n else (n,1)
def xT (b:Jb):Jb:=match b.holds with
 | []=>b
 | h::T=>{b with holds:=T,begun:=ό,hi:=(wK b h.1).1,bits:=(wK b h.1).2}
def uY {n:Int} (h:xz n):Mid n:=by obtain⟨d,H⟩:=h;unfold Mid;omega
structure NQ (w w':World) (R:Nat) (v v':Value) (b':Jb):Prop where
 buf:xZ w' R v' b'
 away:jt (λk=>k=R∨v.ownBlock=ϊ k) w w'
 own:v'.ownBlock=v.ownBlock∨ ∃g,v'.ownBlock=ϊ g/\w.heap.size<=g
def zT.away {S:Nat->Prop} (h:zT w base v L) (a:jt S w w') (I: ∀k,v.ownBlock=ϊ k-> ¬S k):zT w' base v L:=by
 obtain⟨d,H⟩:=h;refine⟨d, ?_⟩;rcases H with h | ⟨g,cap,cur,e1,hb,hg,rest⟩
 ·exact ϑ h
 ·exact ϕ ⟨g,cap,cur,e1,hb,a.blk hg (I g (by rw[e1];rfl)),rest⟩
def jt.old {a b:World} {S S':Nat->Prop} (m:ql w a) (h:jt S a b) (I: ∀k,S k->S' k∨w.heap.size<=k):jt S' w b:=
 ⟨h.os.trans m.os,h.tape.trans m.tape,h.output.trans m.output,Ϙ m.size h.size,λk d H=>by
  rw[h.block k (ϗ d m.size) (λx=>(I k x).elim H (λy=>by omega))]
  exact m.block k d⟩
def zT.own_ge (h:zT w base v L) {k:Nat} (d:v.ownBlock=ϊ k):base<=k/\k<w.heap.size:=by
 rcases h.2 with ⟨rfl,_⟩ | ⟨g,cap,cur,rfl,H,I,_⟩
 ·cases d
 ·obtain rfl:g=k:=by injection d
  exact⟨H,lt_of_block I⟩
def AK (w:World) (B:Nat) (v0 d H:Value):jt (λk=>k=B) w (((w.setCell ⟨B,0,ϋ⟩ v0).setCell ⟨B,1,ϋ⟩ d).setCell ⟨B,2,ϋ⟩ H):=
 (((jt.refl (λk=>k=B) w).set (p:=⟨B,0,ϋ⟩) rfl v0).set (p:=⟨B,1,ϋ⟩) rfl d).set (p:=⟨B,2,ϋ⟩) rfl H
def ZQ {w5:World} {H g J cap M:Nat} {U:Option Addr} {b:Jb} {T:List Hd} {I N O ac aa:Int} {X:Value} (ai:b.holds=(I,N,O)::T) (aq:wK b I=(ac,aa))
  (ak:w5.heap[R]? =ϊ (.cells ((yc b X).setIfInBounds 2 (δ U J M)) 235 (0,0))) (al:w5.heap[H]? =ϊ (.cells #[ι 0,ι 0,ι 0] 338 (0,0)))
  (am:zT w5 (R+1) (δ U J M) T) (ad:(δ U J M).ownBlock=ϊ g) (aj:jt (λk=>k=R∨k=g) w w5) (ar:w.heap.size<=H) (au:R<w.heap.size) (av:g≠R) (aw:g<w.heap.size)
  {WF:World} (e:((((((w5.setCell ⟨R,4,ϋ⟩ (ι ac)).setCell ⟨R,5,ϋ⟩ (ψ aa)).setCell ⟨R,3,ϋ⟩ (μ ό)).setCell ⟨H,0,ϋ⟩ (ι I)).setCell ⟨H,1,ϋ⟩ (ι N)).setCell ⟨H,2,ϋ⟩ (ι O))=WF):
  WF.cell? ⟨H,0,ϋ⟩=ϊ (ι I)/\WF.cell? ⟨H,1,ϋ⟩=ϊ (ι N)/\WF.cell? ⟨H,2,ϋ⟩=ϊ (ι O)/\NQ w WF R (δ (ϊ ⟨g,0,ϋ⟩) (J+1) cap) (δ U J M) (xT b):=by
 obtain⟨w6,af⟩:=ν (((w5.setCell ⟨R,4,ϋ⟩ (ι ac)).setCell ⟨R,5,ϋ⟩ (ψ aa)).setCell ⟨R,3,ϋ⟩ (μ ό));rw[af] at e;have ag:=qp (qp (qp ak 4 (ι ac)) 5 (ψ aa)) 3 (μ ό);rw[af] at ag;have ae:jt (λk=>k=R) w5 w6:=by
  rw[<-af];exact(((jt.refl (λk=>k=R) w5).set (p:=⟨R,4,ϋ⟩) rfl _).set (p:=⟨R,5,ϋ⟩) rfl _).set (p:=⟨R,3,ϋ⟩) rfl _
 have ah:R≠H:=by omega
 have ap:=ae.blk al (λx=>ah x.symm);have Y:=AK w6 H (ι I) (ι N) (ι O);have ab:=qp (qp (qp ap 0 (ι I)) 1 (ι N)) 2 (ι O);rw[e] at Y ab;have ao:=Y.blk ag ah;refine⟨qm ab 0 rfl,qm ab 1 rfl,qm ab 2 rfl,⟨qB ao ?_, ?_⟩, ?_,ϑ (by rw[ad];rfl)⟩
 ·simp only[xT,ai,aq];rfl
 ·have:zT WF (R+1) (δ U J M) T:=(am.away ae (λk d x=>by rw[ad] at d;injection d with d;omega)).away Y (λk d x=>by rw[ad] at d;injection d with d;omega);simp only[xT,ai];exact this
 ·have an:jt (λk=>k=R∨k=g∨k=H) w WF:=(aj.mono λk d=>d.elim ϑ (λx=>ϕ (ϑ x))).trans ((ae.mono λk d=>ϑ d).trans (Y.mono λk d=>ϕ (ϕ d)));refine jt.old (ql.refl w) an λk d=> ?_
  rcases d with d | d | d
  ·exact ϑ (ϑ d)
  ·exact ϑ (ϕ (by rw[d];rfl))
  ·exact ϕ τ
def Z9 (b:Jb) (h:Hd) (T:List Hd) (au:b.holds=h::T) (aM:JOK b) (R:Nat) (v:Value) (w:World) (an:xZ w R v b):
  Calls prog 178 #[γ R] w λe w'=>e= .returned (θ #[ι h.1,ι h.2.1,ι h.2.2])/\ ∃v',NQ w w' R v v' (xT b):=by
 obtain⟨J,aa,ab⟩:=h;have bC:=(aM.nums (J,aa,ab) (by rw[au];exact ϛ)).1;have bA:=uY bC;have bB:=uY aM.hi;have bz:b.holds.length=T.length+1:=by rw[au];rfl
 obtain⟨W2,ax⟩: ∃W2,W2=(w.alloc (.cells #[ι 0,ι 0,ι 0] 338)).alloc (.cells #[ι J,ι aa,ι ab] 338):=⟨_,rfl⟩;have ay:ql w W2:=by rw[ax];exact(ql.alloc w _).al _
 have aw:=an.row;rw[au] at aw;obtain⟨g,cap,rfl,bM,bd,bc⟩:=aw.cell 0 η;obtain⟨bu,bv,bw⟩:=bc _ (ql.alloc w (.cells #[ι 0,ι 0,ι 0] 338));rw[N3] at bu bv bw;have bp:=(an.on (ql.alloc w (.cells #[ι 0,ι 0,ι 0] 338))).cells ⟨_,ql.refl _⟩;obtain⟨_,_,aY,_,_,_⟩:=bp;have bq:=(an.on ((ql.alloc w (.cells #[ι 0,ι 0,ι 0] 338)).al (.cells #[ι J,ι aa,ι ab] 338))).cells ⟨_,ql.refl _⟩;obtain⟨_,_,aZ,_,_,_⟩:=bq;have av:=κ (aw.more ay);have aF:=κ (an.on ay);have be:W2.heap[w.heap.size]? =ϊ (.cells #[ι 0,ι 0,ι 0] 338 (0,0)):=by rw[ax];exact qs (qj w _) _
 have bf:W2.heap[w.heap.size+1]? =ϊ (.cells #[ι J,ι aa,ι ab] 338 (0,0)):=by rw[ax];exact qC η
 rw[ϙ] at aY aZ av aF ⊢;have aK:g≠R:=by omega
 have bb:=lt_of_block an.blk;have bl:=κ ay;have bm:=κ be;have bn:=κ bf;obtain⟨d,aL⟩:=ν (T.length);rw[aL] at aY aZ av aF ⊢
 have aV:Hid (∀w',w'=W2->Calls prog 235 #[δ (ϊ ⟨g,0,ϋ⟩) (d+1) cap,ι 0,ι 1] w' λe Y=> ∃M I,e= .returned (δ M d I)/\zT Y (R+1) (δ M d I) T/\
   Y.heap[R]? =ϊ (.cells (yc b (δ (ϊ ⟨g,0,ϋ⟩) (d+1) cap)) 235 (0,0))/\Y.heap[w.heap.size]? =ϊ (.cells #[ι 0,ι 0,ι 0] 338 (0,0))/\Y.heap[w.heap.size+1]? =ϊ (.cells #[ι J,ι aa,ι ab] 338 (0,0))/\
   jt (λk=>k=g) w Y/\(δ M d I).ownBlock=ϊ g):=κ λw' e=>by
  subst e;refine(Vc (J,aa,ab) T _ (R+1) _ av.o).mono ?_;rintro e Y ⟨v3,rfl,ae,a3,ah⟩;obtain⟨M,I,rfl,_⟩:=ae.shape;rw[aL] at ae ah ⊢;have key: ∀k,(δ (ϊ ⟨g,0,ϋ⟩) (d+1) cap).ownBlock=ϊ k->k=g:=λk U=>by injection U with U;exact U.symm
  have bx:w'.heap[R]? =ϊ (.cells (yc b (δ (ϊ ⟨g,0,ϋ⟩) (d+1) cap)) 235 (0,0)):=aF.o.blk;exact⟨M,I,rfl,ae,a3.blk bx (λx=>aK (key _ x).symm),a3.blk bm.o (λx=>by have:=key _ x;omega),a3.blk bn.o (λx=>by have:=key _ x;omega),jt.old bl.o a3 (λk U=>ϑ (key _ U)),ah⟩
 have aX:=κ ax;have aU:=κ au;clear bc av ay be bf au bz aw aL;cases hbg:b.begun with
 | false=>
  have ai:=κ hbg;clear hbg
  go_enter func178,ntmps178
  go_wp2_with (first | (go_at_call 235;(go_call aV.o _ aX.o.symm as e Y ⟨M,I,rfl,ae,N,ap,aj,a3,ah⟩;have aA:=κ N;have aC:=κ ap;have aD:=κ aj;have aH:=κ ae;have az:=κ a3;have ao:=κ ah;unfold yc at N;rw[ai.o] at N;have aQ:=qm N 2 rfl;have aT:=yw N 2;have aR:=qm N 3 rfl;have z3:=yw N 3;have aS:=qm aj 0 rfl;clear N ap aj a3 ah ae)) | (go_at_call 237;(go_call Ya J _ as e w5 ⟨rfl,ag⟩;have H:=qq ag (qp aA.o 2 (δ M d I));have O:=qq ag (qo aC.o ⟨R,2,ϋ⟩ (δ M d I) (by simp;omega));have ad:=qq ag (qo aD.o ⟨R,2,ϋ⟩ (δ M d I) (by simp;omega));have aB:=κ H;have aE:=κ O;have bL:=κ ad;have ac:=κ ag;unfold yc at H;rw[ai.o] at H;have bI:=qm H 3 rfl;have bJ:=qm H 4 rfl;have bK:=qm H 5 rfl;have bD:=yw H 3;have bE:=yw H 4;have bF:=yw H 5;have bG:=qm O 0 rfl;have bH:=qm O 1 rfl;have p2:=qm O 2 rfl;have br:=yw O 0;have bs:=yw O 1;have bt:=yw O 2;have t0:=qm ad 0 rfl;have t1:=qm ad 1 rfl;have t2:=qm ad 2 rfl;clear H O ad ag aQ aT aR z3 aS)))
  have ar:zT w5 (R+1) (δ M d I) T:=(aH.o.away ((jt.refl (λk=>k=R) Y).set (p:=⟨R,2,ϋ⟩) rfl (δ M d I)) (λk U x=>by rw[ao.o] at U;injection U with U;omega)).more ac.o;have aq:jt (λk=>k=R∨k=g) w w5:=((az.o.mono λk U=>ϕ U).trans ((jt.refl (λk=>k=R∨k=g) Y).set (p:=⟨R,2,ϋ⟩) (ϑ rfl) (δ M d I))).more ac.o;obtain⟨WF,ak⟩:=ν (((((((w5.setCell ⟨R,4,ϋ⟩ (ι J)).setCell ⟨R,5,ϋ⟩ (ψ 1)).setCell ⟨R,3,ϋ⟩ (μ ό)).setCell ⟨w.heap.size,0,ϋ⟩ (ι J)).setCell ⟨w.heap.size,1,ϋ⟩ (ι aa)).setCell ⟨w.heap.size,2,ϋ⟩ (ι ab)));obtain⟨aN,aO,aP,st⟩:=ZQ (cap:=cap) aU.o (show wK b J=(J,1) by unfold wK;rw[ai.o];rfl) aB.o aE.o ar ao.o aq (ϔ _) bb aK bd ak;rw[ak];clear ak ar aq
  (refine bodyPost_ret (v:= θ #[ι J,ι aa,ι ab]) ?rr1 rfl ?_;(case rr1=>(simp[results,results178,go_sem,aN,aO,aP])))
  exact⟨rfl,_,st⟩
 | true=>
  have ai:=κ hbg;clear hbg
  go_enter func178,ntmps178
  go_wp2_with (go_at_call 235;(go_call aV.o _ aX.o.symm as e Y ⟨M,I,rfl,ae,N,ap,aj,a3,ah⟩;have aA:=κ N;have aC:=κ ap;have aD:=κ aj;have aH:=κ ae;have az:=κ a3;have ao:=κ ah;unfold yc at N;rw[ai.o] at N;have aQ:=qm N 2 rfl;have aT:=yw N 2;have aR:=qm N 3 rfl;have z3:=yw N 3;have aS:=qm aj 0 rfl;clear N ap aj a3 ah ae))
  generalize am:Y.setCell ⟨R,2,ϋ⟩ (δ M d I)=w4 at *;have aI:w4.heap[R]? =ϊ (.cells ((yc b (δ (ϊ ⟨g,0,ϋ⟩) (d+1) cap)).setIfInBounds 2 (δ M d I)) 235 (0,0)):=by rw[<-am];exact qp aA.o 2 _
  have ba:w4.heap[w.heap.size]? =ϊ (.cells #[ι 0,ι 0,ι 0] 338 (0,0)):=by rw[<-am];exact qo aC.o ⟨R,2,ϋ⟩ (δ M d I) (by simp;omega)
  have aJ:w4.heap[w.heap.size+1]? =ϊ (.cells #[ι J,ι aa,ι ab] 338 (0,0)):=by rw[<-am];exact qo aD.o ⟨R,2,ϋ⟩ (δ M d I) (by simp;omega)
  have bg:zT w4 (R+1) (δ M d I) T:=by
   rw[<-am];exact aH.o.away ((jt.refl (λk=>k=R) Y).set (p:=⟨R,2,ϋ⟩) rfl (δ M d I)) (λk U x=>by rw[ao.o] at U;injection U with U;omega)
  have a4:jt (λk=>k=R∨k=g) w w4:=by
   rw[<-am];exact(az.o.mono λk U=>ϕ U).trans ((jt.refl (λk=>k=R∨k=g) Y).set (p:=⟨R,2,ϋ⟩) (ϑ rfl) (δ M d I))
  have bi:=κ aI;have bj:=κ ba;have bk:=κ aJ;have bo:=κ bg;have bh:=κ a4;have aG:=λ(x:qt w4)=>qq x.h aI
  have c4:=λx=>β4 (aG x);have c5:=λx=>β5 (aG x);clear aG
  have c1:=λ(x:qt w4)=>β0 (qq x.h aJ)
  clear aI ba aJ bg a4 am aQ aT aR z3 aS;refine Qn w4 10 11 [7,8,10] ?_
  refine Qq7 ?_
  (refine Ql ?_;intro K af)
  refine(gS b.hi b.bits J bB bA aM.bits _).mono ?_;rintro e w5 ⟨rfl,ag⟩;have ac:ql w4 w5:=(ql.drewN w4 1).trans ag;refine⟨_,rfl,qk ac,af _ _ ?_⟩;clear af K ag
  (refine Ql ?_;intro K af)
  refine⟨qk ac,af _ _ ?_⟩;clear af K
  refine Qq1 ?_
  have H:=qq ac bi.o;have O:=qq ac bj.o;have ad:=qq ac bk.o;have aB:=κ H;have aE:=κ O;have aW:=κ ac;unfold yc at H;rw[ai.o] at H;have bI:=qm H 3 rfl;have bJ:=qm H 4 rfl;have bK:=qm H 5 rfl;have bD:=yw H 3;have bE:=yw H 4;have bF:=yw H 5;have bG:=qm O 0 rfl;have bH:=qm O 1 rfl;have p2:=qm O 2 rfl;have br:=yw O 0;have bs:=yw O 1;have bt:=yw O 2;have t0:=qm ad 0 rfl;have t1:=qm ad 1 rfl;have t2:=qm ad 2 rfl;clear H O ad ac c4 c5 c1
  (refine Qe ?_;intro K af)
  refine af _ _ ?_;clear af K;refine qA ?_;go_wp2;have ar:zT w5 (R+1) (δ M d I) T:=bo.o.more aW.o;have aq:jt (λk=>k=R∨k=g) w w5:=bh.o.more aW.o;obtain⟨WF,ak⟩:=ν (((((((w5.setCell ⟨R,4,ϋ⟩ (ι (zt b.hi b.bits J).1)).setCell ⟨R,5,ϋ⟩ (ψ (zt b.hi b.bits J).2)).setCell ⟨R,3,ϋ⟩ (μ ό)).setCell ⟨w.heap.size,0,ϋ⟩ (ι J)).setCell ⟨w.heap.size,1,ϋ⟩ (ι aa)).setCell ⟨w.heap.size,2,ϋ⟩ (ι ab)));obtain⟨aN,aO,aP,st⟩:=ZQ (cap:=cap) aU.o (show wK b J=((zt b.hi b.bits J).1,(zt b.hi b.bits J).2) by unfold wK;rw[ai.o];rfl) aB.o aE.o ar ao.o aq (ϔ _) bb aK bd ak;rw[ak];clear ak ar aq
  (refine bodyPost_ret (v:= θ #[ι J,ι aa,ι ab]) ?rr2 rfl ?_;(case rr2=>(simp[results,results178,go_sem,aN,aO,aP])))
  exact⟨rfl,_,st⟩
end
section
open Go.RowKit Go.Lib
def atJ (L:List Hd) (n:Int):Nat:=L.findIdx λk=>decide (n<k.1)
def ue (L:List Hd) (h:Hd):List Hd:=L.take (atJ L h.1)++h::L.drop (atJ L h.1)
def JM (b:Jb) (n:Int):Bool:=b.holds.any λk=>k.1==n
def jP (b:Jb) (n now x:Int):Jb×Int:=
 if JM b n||(b.begun&&yi b.hi b.bits n) then (b,10)
 else if b.begun&&decide (n<b.hi+1) then (b,9)
 else if b.room<=b.holds.length then (b,8)
 else ({b with holds:=ue b.holds (n,now,x)},0)
def Ua (L:List Hd) (n:Int):atJ L n<=L.length:=List.findIdx_le_length
def Fx (L:List Hd) (n:Int):(Jk (λk=>decide (n<k.1)) L=(atJ L n:Int)/\atJ L n<L.length)∨(Jk (λk=>decide (n<k.1)) L= -1/\atJ L n=L.length):=by
 unfold Jk;have:=Ua L n;unfold atJ at *;by_cases h:L.findIdx (λk=>decide (n<k.1))<L.length
 ·left;rw[ϐ h];exact⟨rfl,h⟩
 ·right;rw[ώ h];exact⟨rfl,τ⟩
def NQ.keep {b:Jb} (m:ql w w') (d:xZ w' R v b):NQ w w' R v v b:=⟨d,jt.of_more m,ϑ rfl⟩
end
end Go.Proofs.YtlmllmonabafjaaGreatDoor
