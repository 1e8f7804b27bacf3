/- Contracts and plain laws. -/
import Derived.Test.YtlmllmonabafjaaGreatDoorMg3
import Derived.KernelRfl
import Derived.Deep.AppendLies
import Derived.Shelf.RegionOpenPlain
import Derived.Deep.RegionLaw
import Derived.Laws.IdiomCopy
import Derived.Lib.AppendZeros
import Derived.Lib.AppendZerosOnto
import Derived.Lib.Overlaps
namespace Go.Proofs.YtlmllmonabafjaaGreatDoor
open Go.Value renaming bool->μ,slice->δ,pointer->π,agg->θ
open Go.IntKind renaming i64->ι,u8->υ,u16->φ,u32->ω,i32->χ,u64->ψ
open _root_.Go.Proofs.Tryz
set_option linter.unusedSimpArgs false
set_option maxHeartbeats 8000000
set_option linter.unusedVariables false
open Go.RowKit
set_option maxRecDepth 100000
theorem xp {P:Program} {ops:Array Oper} {rest:List Oper} {op:Oper} {a:Act} {w:World} {Q:Exit->Act->World->Prop} (U:Region.wanted op (yielded ops a.tmps)=true) (d:TypeId) (x:Operand) (N:op.op= .load d x)
  (b o:Nat) (Y:a.eval x= π (some ⟨b,o,none⟩)) (cs:List Value) (G:TypeDesc) (I:w.rangeAt b o cs)
  (O:P.underlying d=some G) (J:G.isRow=true) (hi:(P.info? d).map (·.size)=some cs.length)
  (h:wpList P ops Q rest (a.put op.dst (θ cs.toArray)) w):wpList P ops Q (op::rest) a w:=
 wpList_step λK H=>by
  rw[if_pos U];exact wp_load_mid d x N b o Y cs G I O J hi (H _ _ h)
theorem kB {w:World} {b t:Nat} {a0 d G:Value} {cs:List Value} (h:w.heap[b]? =some (.cells (a0::d::G::cs).toArray t (0,0))):w.rangeAt b 3 cs:=λj v H=>by
 rw[cell_of_row w b (3+j) _ t (0,0) h,List.getElem?_toArray,show 3+j=j+1+1+1 by omega]
 simpa using H
theorem Kx {D:Nat->Prop} {w:World} {q:List (List Value)} {l:List ItS} (a:zq (jp RIt D w) q l): ∀c∈q,∃(y:ItS) (G H J:Option Addr) (an d bn I cn N:Nat),c=[ι y.id,ι y.layer,y.key,y.pk.mr,υ y.pk.ty,φ y.pk.sq,ω y.pk.st,ω y.pk.sc,δ G an d,y.pk.has,φ y.pk.pr,δ H bn I,δ J cn N]:=λc O=>by
 obtain⟨y,_,U⟩:=a.mem c O;obtain⟨aa,Y,vp,rfl,⟨⟨G,d,rfl,_⟩,⟨H,I,rfl,_⟩,⟨J,N,rfl,_⟩⟩,_⟩:=U.read;exact⟨y,G,H,J,_,d,_,I,_,N,rfl⟩
theorem U3 {D:Nat->Prop} {w:World} {q:List (List Value)} {l:List ItS} (a:zq (jp RIt D w) q l):(q.head?.map idN).getD 0=(l.head?.map (·.id)).getD 0:=by
 cases l with
 | nil=>rw[a.nil_r];rfl
 | cons o l=>
  obtain⟨c,q',rfl,d,_⟩:=a.uncons;obtain⟨H,G,vp,rfl,_⟩:=d.read;rfl
theorem Pv (am:World) (R A room f:Nat) (q:List (List Value)) (ad ab ac O:Int) (css:List (List Value)) (ai:qO 13 327 253 am R A room f q ad ab ac O css)
  (al: ∀c∈q,∃(y:ItS) (H I U:Option Addr) (G d N J aa Y:Nat),c=[ι y.id,ι y.layer,y.key,y.pk.mr,υ y.pk.ty,φ y.pk.sq,ω y.pk.st,ω y.pk.sc,δ H G d,y.pk.has,φ y.pk.pr,δ I N J,δ U aa Y]) (x:List Value) (ak:x.length=13/\ ∀u∈x,u.oneCell'=true):
  ∃(y:ItS) (H I U:Option Addr) (G d N J aa Y:Nat),(y.id=if q.length<room then 0 else (q.head?.map idN).getD 0)/\
  ∀w,qO 13 327 253 w R A room f q ad ab ac O css->Calls prog 196 #[γ R,θ x.toArray] w λe w'=>e= .returned (.tuple #[θ #[ι y.id,ι y.layer,y.key,y.pk.mr,υ y.pk.ty,φ y.pk.sq,ω y.pk.st,ω y.pk.sc,δ H G d,y.pk.has,φ y.pk.pr,δ I N J,δ U aa Y],(decide (¬q.length<room)),ι 0])/\
   (∃f' ae ah css',qO 13 327 253 w' R A room f' (vH room q x) ae ab ah O css')/\qg (RgB R A) w w':=by
 by_cases hq:q.length<room
 ·refine⟨⟨0,0,false,pk0⟩,none,none,none,0,0,0,0,0,0,by rw[if_pos hq],λw h=> ?_⟩;have af:decide (¬q.length<room)=false:=by simp[hq]
  have ag:vH room q x=q++[x]:=by unfold vH;rw[if_pos hq]
  rw[af,ag];refine(UN w R A room f q ad ab ac O css h hq x ak).mono ?_;rintro e w' ⟨rfl,⟨ae,g⟩,a⟩;exact⟨rfl,⟨_,_,_,_,g⟩,a⟩
 ·have an:=ai.fits;have ao:=ai.pos;cases q with
  | nil=>simp at hq;omega
  | cons c T=>
   obtain⟨y,H,I,U,G,d,N,J,aa,Y,aj⟩:=al c η;refine⟨y,H,I,U,G,d,N,J,aa,Y,by rw[if_neg hq,aj];rfl,λw h=> ?_⟩;have af:decide (¬(c::T).length<room)=true:=by simpa using hq
   have ag:vH room (c::T) x=T++[x]:=by unfold vH;rw[if_neg hq];rfl
   rw[af,ag];refine(UO w R A room f c T ad ab ac O css h τ x ak).mono ?_;rintro e w' ⟨rfl,⟨ae,ah,g⟩,a⟩;exact⟨by rw[aj],⟨_,_,_,_,g⟩,a⟩
section
variable {N:Nat->Prop} {w w':World} {k:LnB} {vo:Value} {s s':LnS}
theorem QC (h:LnX N w k vo s) (x:ItS) (os I J:Option Addr) (G ke d:Nat) (aj:PkS w (δ os x.pk.ss.length G) (δ I x.pk.ex.length ke) (δ J x.pk.pl.length d) x.pk) (ak:gu x.pk) (n:Int)
  (ao:(jc x.layer=false/\n=1)∨(jc x.layer=true/\jM x.pk=false/\n=1)∨(jc x.layer=true/\jM x.pk=true/\s.gone=true/\n=7)∨(jc x.layer=true/\jM x.pk=true/\s.gone=false/\s.wanted=false/\n=5)):
  Calls prog 136 #[γ k.L,(Γj x os G I ke J d)] w λe w'=>e= .returned (.tuple #[ι 0,false,ι n])/\qa w w':=by
 have aa:Hid (∀w',qa w w'->Calls prog 92 #[(Γh x.pk os G I ke J d)] w' λe w''=>e= .returned (μ (jM x.pk))/\qa w' w''):=κ λw' m=>gg x.pk _ _ _ w' (aj.keep m) ak
 have ae:=κ λ(w':World) (m:qa w w')=>gM (h.on m)
 have am:=κ h;clear h aj ak;rcases ao with ⟨O,rfl⟩ | ⟨O,Y,rfl⟩ | ⟨O,Y,ac,rfl⟩ | ⟨O,Y,ac,al,rfl⟩
 ·have ab:=κ O;clear O
  go_enter func136,ntmps136
  go_wp2_with (first | (go_at_call 151;(go_call xW x.layer _ as e w1 ⟨rfl,ai⟩;subst w1;rw[ab.o])) | (refine yL (.load 63 (.tmp 15)) rfl ?_;refine xp rfl 63 (.tmp 15) rfl w.heap.size 3 rfl (Γh x.pk os G I ke J d) _ (kB (qk w (.cells (Γj x os G I ke J d) 253))) underlying63 rfl ξ ?_) | (go_at_call 92;(go_call aa.o _ (qa.alloc _ _) as e w2 ⟨rfl,H⟩;have U:Hid (qa w w2):=κ ((qa.alloc _ _).trans H);have ah:=κ (qc H (qk w (.cells (Γj x os G I ke J d) 253)));clear H)))
  refine bodyPost_ret (v:= .tuple #[ι 0,false,ι 1]) (by simp[results,results136,go_sem]) rfl ?_;exact⟨rfl,ρ⟩
 ·have ab:=κ O;rw[Y] at aa;clear O Y
  go_enter func136,ntmps136
  go_wp2_with (first | (go_at_call 151;(go_call xW x.layer _ as e w1 ⟨rfl,ai⟩;subst w1;rw[ab.o])) | (refine yL (.load 63 (.tmp 15)) rfl ?_;refine xp rfl 63 (.tmp 15) rfl w.heap.size 3 rfl (Γh x.pk os G I ke J d) _ (kB (qk w (.cells (Γj x os G I ke J d) 253))) underlying63 rfl ξ ?_) | (go_at_call 92;(go_call aa.o _ (qa.alloc _ _) as e w2 ⟨rfl,H⟩;have U:Hid (qa w w2):=κ ((qa.alloc _ _).trans H);have ah:=κ (qc H (qk w (.cells (Γj x os G I ke J d) 253)));clear H)))
  refine bodyPost_ret (v:= .tuple #[ι 0,false,ι 1]) (by simp[results,results136,go_sem]) rfl ?_;exact⟨rfl,U.o⟩
 ·have ab:=κ O;rw[Y] at aa;rw[ac] at ae;clear O Y ac
  go_enter func136,ntmps136
  go_wp2_with (first | (go_at_call 151;(go_call xW x.layer _ as e w1 ⟨rfl,ai⟩;subst w1;rw[ab.o])) | (refine yL (.load 63 (.tmp 15)) rfl ?_;refine xp rfl 63 (.tmp 15) rfl w.heap.size 3 rfl (Γh x.pk os G I ke J d) _ (kB (qk w (.cells (Γj x os G I ke J d) 253))) underlying63 rfl ξ ?_) | (go_at_call 92;(go_call aa.o _ (qa.alloc _ _) as e w2 ⟨rfl,H⟩;have U:Hid (qa w w2):=κ ((qa.alloc _ _).trans H);have ah:=κ (qc H (qk w (.cells (Γj x os G I ke J d) 253)));clear H)) | (go_at_call 69;(go_call ae.o _ U.o as e ag ⟨rfl,ad⟩;have af:Hid (qa w ag):=κ (U.o.trans ad);clear ad)))
  refine bodyPost_ret (v:= .tuple #[ι 0,false,ι 7]) (by simp[results,results136,go_sem]) rfl ?_;exact⟨rfl,af.o⟩
 ·have ab:=κ O;rw[Y] at aa;rw[ac] at ae;have an:=κ al;clear O Y ac al
  go_enter func136,ntmps136
  go_wp2_with (first | (go_at_call 151;(go_call xW x.layer _ as e w1 ⟨rfl,ai⟩;subst w1;rw[ab.o])) | (refine yL (.load 63 (.tmp 15)) rfl ?_;refine xp rfl 63 (.tmp 15) rfl w.heap.size 3 rfl (Γh x.pk os G I ke J d) _ (kB (qk w (.cells (Γj x os G I ke J d) 253))) underlying63 rfl ξ ?_) | (go_at_call 92;(go_call aa.o _ (qa.alloc _ _) as e w2 ⟨rfl,H⟩;have U:Hid (qa w w2):=κ ((qa.alloc _ _).trans H);have ah:=κ (qc H (qk w (.cells (Γj x os G I ke J d) 253)));clear H)) | (go_at_call 69;(go_call ae.o _ U.o as e ag ⟨rfl,ad⟩;have af:Hid (qa w ag):=κ (U.o.trans ad);clear ad;have c4:ag.cell? ⟨k.L,4,none⟩=some (μ false):=(by rw[<-an.o];exact qb (qc af.o am.o.blk) 4 rfl))))
  refine bodyPost_ret (v:= .tuple #[ι 0,false,ι 5]) (by simp[results,results136,go_sem]) rfl ?_;exact⟨rfl,af.o⟩
theorem UH (h:LnX N w k vo s) (x:ItS) (os ac Y:Option Addr) (ah ke O:Nat) (be:PkS w (δ os x.pk.ss.length ah) (δ ac x.pk.ex.length ke) (δ Y x.pk.pl.length O) x.pk) (ag:wP x.pk) (bj:gu x.pk)
  (bQ:jc x.layer=true) (bf:jM x.pk=true) (bK:s.gone=false) (bR:s.wanted=true):
  Calls prog 136 #[γ k.L,(Γj x os ah ac ke Y O)] w λe w'=>e= .returned (.tuple #[ι (if s.A.length<s.room then 0 else (s.A.head?.map (·.id)).getD 0),(decide (¬s.A.length<s.room)),ι 0])/\
   LnX (xd N w w') w' k vo {s with A:=if s.A.length<s.room then s.A++[x] else s.A.tail++[x]}/\qg N w w':=by
 have cd:Hid (∀w',qa w w'->Calls prog 92 #[(Γh x.pk os ah ac ke Y O)] w' λe w''=>e= .returned (μ true)/\qa w' w''):=κ λw' m=>by have:=gg x.pk _ _ _ w' (be.keep m) bj;rw[bf] at this;exact this
 have bX:Hid (∀(w':World),qa w w'->Calls prog 69 #[γ k.L] w' λe w''=>e= .returned (μ false)/\qa w' w''):=κ λw' m=>by have:=gM (h.on m);rw[bK] at this;exact this
 have cf:=κ bQ;have ca:=κ bf;have cg:=κ bR;have I:=κ h;have aJ:=κ be;have ai:=κ bj;have bY:=κ ag;have bx:=κ h.dist;obtain⟨cG,bi⟩:=ν ((if s.A.length<s.room then 0 else (s.A.head?.map (·.id)).getD 0));obtain⟨cF,bh⟩:=ν (decide (¬s.A.length<s.room));obtain⟨dl,bg⟩:=ν ((if s.A.length<s.room then s.A++[x] else s.A.tail++[x]));rw[bi,bh,bg];have ce:=κ bi;have cc:=κ bh;have cb:=κ bg;clear bi bh bg h be bj ag bQ bf bK bR
 go_enter func136,ntmps136
 go_wp2_with (first | (go_at_call 151;(go_call xW x.layer _ as e w1 ⟨rfl,cx⟩;subst w1;rw[cf.o])) | (refine yL (.load 63 (.tmp 15)) rfl ?_;refine xp rfl 63 (.tmp 15) rfl w.heap.size 3 rfl (Γh x.pk os ah ac ke Y O) _ (kB (qk w (.cells (Γj x os ah ac ke Y O) 253))) underlying63 rfl ξ ?_) | (go_at_call 92;(go_call cd.o _ (qa.alloc _ _) as e w2 ⟨rfl,bm⟩;have bz:Hid (qa w w2):=κ ((qa.alloc _ _).trans bm);have cl:=κ (qc bm (qk w (.cells (Γj x os ah ac ke Y O) 253)));clear bm)) | (go_at_call 69;(go_call bX.o _ bz.o as e ay ⟨rfl,bn⟩;have aL:Hid (qa w ay):=κ (bz.o.trans bn);have aR:=κ (qc bn cl.o);clear bn;have c4:ay.cell? ⟨k.L,4,none⟩=some (μ true):=(by rw[<-cg.o];exact qb (qc aL.o I.o.blk) 4 rfl);have cM:ay.cell? ⟨w.heap.size,8,none⟩=some (δ os x.pk.ss.length ah):=qb aR.o 8 rfl)) | (go_at_call 49;(go_call Lu _ x.pk.ss ay (aJ.o.s.keep aL.o) ai.o.s as e w4 ⟨⟨v4,rfl,bp⟩,bo⟩;have aq:=κ bp;have bA:Hid (qa w w4):=κ (aL.o.trans bo);have av:=κ (qc bo aR.o);obtain⟨aa,U,rfl⟩:=zz bp;clear bp bo;have cM:w4.cell? ⟨w.heap.size,8,none⟩=some (δ os x.pk.ss.length ah):=qb av.o 8 rfl;have ds:w4.frozen? ⟨w.heap.size,8,none⟩=false:=qd av.o 8;have cK:w4.cell? ⟨w.heap.size,11,none⟩=some (δ ac x.pk.ex.length ke):=qb av.o 11 rfl)) | (go_at_call 50;((with_reducible refine(YE (δ ac x.pk.ex.length ke) x.pk.ex (w4.setCell ⟨w.heap.size,8,none⟩ (δ aa x.pk.ss.length U)) (aJ.o.e.keep (bA.o.st (Nat.le_refl _) _)) ai.o.e).mono ?_);rintro e w5 ⟨⟨v5,rfl,bq⟩,aE⟩;have ar:=κ bq;have bB:Hid (qa w w5):=κ ((bA.o.st (Nat.le_refl _) _).trans aE);have bC:Hid (qg (λb=>b=w.heap.size) w4 w5):=κ (((qg.refl (λb=>b=w.heap.size) w4).set (p:=⟨w.heap.size,8,none⟩) rfl _).more aE);have aw:Hid (w5.heap[w.heap.size]? =some (.cells (Γj x aa U ac ke Y O) 253 (0,0))):=κ (qc aE (qA (qo av.o 8 _) rfl));obtain⟨ad,ab,rfl⟩:=zz bq;clear bq aE;have cK:w5.cell? ⟨w.heap.size,11,none⟩=some (δ ac x.pk.ex.length ke):=qb aw.o 11 rfl;have dp:w5.frozen? ⟨w.heap.size,11,none⟩=false:=qd aw.o 11;have cL:w5.cell? ⟨w.heap.size,12,none⟩=some (δ Y x.pk.pl.length O):=qb aw.o 12 rfl)) | (go_at_call 50;((with_reducible refine(YE (δ Y x.pk.pl.length O) x.pk.pl (w5.setCell ⟨w.heap.size,11,none⟩ (δ ad x.pk.ex.length ab)) (aJ.o.l.keep (bB.o.st (Nat.le_refl _) _)) ai.o.l).mono ?_);rintro e w6 ⟨⟨dm,rfl,bs⟩,aF⟩;have au:=κ bs;have ci:Hid (qa w w6):=κ ((bB.o.st (Nat.le_refl _) _).trans aF);have aN:Hid (qg (λb=>b=w.heap.size) w5 w6):=κ (((qg.refl (λb=>b=w.heap.size) w5).set (p:=⟨w.heap.size,11,none⟩) rfl _).more aF);have aS:Hid (w6.heap[w.heap.size]? =some (.cells (Γj x aa U ad ab Y O) 253 (0,0))):=κ (qc aF (qA (qo aw.o 11 _) rfl));obtain⟨af,ae,rfl⟩:=zz bs;clear bs aF;have cL:w6.cell? ⟨w.heap.size,12,none⟩=some (δ Y x.pk.pl.length O):=qb aS.o 12 rfl;have dq:w6.frozen? ⟨w.heap.size,12,none⟩=false:=qd aS.o 12)))
 obtain⟨W7,ax⟩:=ν (w6.setCell ⟨w.heap.size,12,none⟩ (δ af x.pk.pl.length ae));have aA:Hid (qg (λb=>b=w.heap.size) w6 W7):=κ (by rw[<-ax];exact(qg.refl (λb=>b=w.heap.size) w6).set (p:=⟨w.heap.size,12,none⟩) rfl _);have aM:Hid (qa w W7):=κ (by rw[<-ax];exact ci.o.st (Nat.le_refl _) _);have cm:Hid (W7.heap[w.heap.size]? =some (.cells (Γj x aa U ad ab af ae) 253 (0,0))):=κ (by rw[<-ax];exact qA (qo aS.o 12 _) rfl);rw[ax];clear ax;have bv:=κ (qc aM.o I.o.blk);have di:w.heap.size<ay.heap.size:=ql aR.o;have dj:w.heap.size<w4.heap.size:=ql av.o;have dk:w.heap.size<w5.heap.size:=ql aw.o;have df:w4.heap.size<=w5.heap.size:=bC.o.size;have dg:w5.heap.size<=w6.heap.size:=aN.o.size;have dh:w6.heap.size<=W7.heap.size:=aA.o.size;have cj:Hid (SlI .u32 W7 (δ aa x.pk.ss.length U) x.pk.ss):=κ ((SlI.of_owns aq.o (by have:=ai.o.s;omega)).off (λb e H=>by have:=ur aq.o e;omega) ((bC.o.trans aN.o).trans aA.o));have ck:Hid (SlI .u8 W7 (δ ad x.pk.ex.length ab) x.pk.ex):=κ ((SlI.of_owns ar.o (by have:=ai.o.e;omega)).off (λb e H=>by have:=ur ar.o e;simp at this;omega) (aN.o.trans aA.o));have S6:Hid (SlI .u8 W7 (δ af x.pk.pl.length ae) x.pk.pl):=κ ((SlI.of_owns au.o (by have:=ai.o.l;omega)).off (λb e H=>by have:=ur au.o e;simp at this;omega) aA.o);have aO:Hid (∀b,(δ aa x.pk.ss.length U).ownBlock=some b->w.heap.size<=b/\b<W7.heap.size):=κ λb e=>by
  have aD:=ur aq.o e;have bH:=Vm aq.o e;omega
 have aP:Hid (∀b,(δ ad x.pk.ex.length ab).ownBlock=some b->w.heap.size<=b/\b<W7.heap.size):=κ λb e=>by
  have aD:=ur ar.o e;have bH:=Vm ar.o e;simp at aD;omega
 have aQ:Hid (∀b,(δ af x.pk.pl.length ae).ownBlock=some b->w.heap.size<=b/\b<W7.heap.size):=κ λb e=>by
  have aD:=ur au.o e;have bH:=Vm au.o e;simp at aD;omega
 clear aq ar au;obtain⟨cy,aG,co,bE,cn,bD,cp,aC,aB⟩:=I.o.r1;have bu:=κ aB;have bP:aG.length=s.A.length:=aB.len;have cU:k.R1<w.heap.size:=ql aC.ring;have cS:k.A1<w.heap.size:=ql aC.row;have ap:=κ (aC.more aM.o);obtain⟨y,aV,aX,ba,aU,aT,aZ,aY,bc,bb,bM,bN⟩:=Pv W7 k.R1 k.A1 s.room cy aG co bE cn bD cp ap.o (Kx aB) (Γj x aa U ad ab af ae) ⟨rfl,by simp[Value.oneCell']⟩;have aK:=κ bN;have bZ:=κ bM;clear bN bM aC aB;generalize bJ:decide (¬aG.length<s.room)=dr at aK;have bW:=κ bJ;clear bJ;have bS: ¬RgB k.R1 k.A1 k.L:=by
  obtain⟨⟨cq,cr,ct,cu,cv,cw⟩,_⟩:=bx.o;rintro(e | e)<;>omega
 have cE: ¬RgB k.R1 k.A1 w.heap.size:=by rintro(e | e)<;>omega
 go_cut [7,8,9] from 45 (λcH cI cJ bt=> ∃C,cH= γ C/\cI= μ dr/\cJ= ι 0/\bt.heap[C]? =some (.cells #[ι y.id,ι y.layer,y.key,y.pk.mr,υ y.pk.ty,φ y.pk.sq,ω y.pk.st,ω y.pk.sc,δ aV aU aT,y.pk.has,φ y.pk.pr,δ aX aZ aY,δ ba bc bb] 253 (0,0))/\qg (RgB k.R1 k.A1) W7 bt/\ ∃an ak aj am,qO 13 327 253 bt k.R1 k.A1 s.room an (vH s.room aG (Γj x aa U ad ab af ae)) ak bE aj bD am)
 case first=>
  have cN: ∀z:qu (RgB k.R1 k.A1) W7,z.w'.cell? ⟨k.L,1,none⟩=some (π (some ⟨k.R1,0,none⟩)):=λz=>qb (z.h.blk bv.o bS) 1 rfl
  have ch: ∀z:qu (RgB k.R1 k.A1) W7,z.w'.rangeAt w.heap.size 0 (Γj x aa U ad ab af ae):=λz=>xw (z.h.blk cm.o cE)
  refine wE (RgB k.R1 k.A1) W7 14 (.op 0 false (.op 1 false (.op 2 false (.op 3 false (.op 4 false (.br [5,10] λk=>if k=5 then .op 6 false (.op 7 false (.op 8 false (.op 9 false (.op 10 true (.op 11 true (.op 12 false (.op 13 false (.done)))))))) else .op 5 true (.op 6 false (.op 7 false (.op 8 false (.op 9 false (.op 11 true (.op 12 false (.op 13 false (.done)))))))))))))) ξ ξ ?_
  iterate 4 (refine qE rfl rfl (qi σ) ?_;intro K d;go_big_quiet_op;go_big_quiet_on)
  refine QZ rfl rfl (qi σ) 253 (.tmp 3) rfl w.heap.size 0 rfl (Γj x aa U ad ab af ae) _ (λw' cC=>by obtain⟨z,rfl⟩:=cC;exact ch z) underlying253 rfl ξ ?_;intro K d;go_simp;refine d _ ?_;clear d K;refine wR ζ ?_ ?_
  ·(refine qP rfl rfl ?_;intro K d;unfold jl;go_simp)
   go_call aK.o _ (ap.o.more (qa.drewN W7 1)) as e w9 ⟨rfl,J,a9⟩;have G:Hid (qg (RgB k.R1 k.A1) W7 w9):=κ (((qg.refl _ _).drewN 1).trans a9);have aI:=κ J;clear a9 J;refine⟨_,rfl,qi G.o,d _ _ ?_⟩;clear d K
   repeat (first | (refine jd rfl rfl (qi G.o) ?_) | (refine qE rfl rfl (qi G.o) ?_;intro K d;go_big_quiet_op;go_big_quiet_on))
   (refine qP rfl rfl ?_;intro K d;unfold jl;go_simp)
   refine⟨qi (G.o.alc _),d _ _ ?_⟩;clear d K;refine qP rfl rfl ?_;intro K d;refine jq 253 (.tmp 7) (.tmp 52) rfl w9.heap.size 253 _ #[ι y.id,ι y.layer,y.key,y.pk.mr,υ y.pk.ty,φ y.pk.sq,ω y.pk.st,ω y.pk.sc,δ aV aU aT,y.pk.has,φ y.pk.pr,δ aX aZ aY,δ ba bc bb] rfl rfl (qk w9 _) ξ rfl (all_oneCell_toArray (by simp[Value.oneCell'])) ?_;refine⟨qi ((G.o.alc _).rowNew G.o.size _), ?_⟩;go_simp;refine d _ _ ?_;clear d K
   repeat (first | (refine jd rfl rfl (qi ((G.o.alc _).rowNew G.o.size _)) ?_) | (refine qE rfl rfl (qi ((G.o.alc _).rowNew G.o.size _)) ?_;intro K d;go_big_quiet_op;go_big_quiet_on))
   refine ze ?_;go_wp2;go_meet;obtain⟨an,ak,aj,am,J⟩:=aI.o;refine⟨_,rfl,rfl,rfl,jT (qk w9 _) _,(G.o.alc _).rowNew G.o.size _,an,ak,aj,am,(J.more (qa.alloc _ _)).away (j9 _ _ _) ?_ ?_⟩
   ·have:=ql J.ring;omega
   ·have:=ql J.row;omega
  ·(refine qP rfl rfl ?_;intro K d;unfold jl;go_simp)
   refine⟨qi (((qg.refl _ W7).drewN 1).alc _),d _ _ ?_⟩;clear d K
   (refine qP rfl rfl ?_;intro K d;unfold jl;go_simp)
   go_call aK.o _ (ap.o.more ((qa.drewN W7 1).al _)) as e w9 ⟨rfl,J,a9⟩;have G:Hid (qg (RgB k.R1 k.A1) W7 w9):=κ ((((qg.refl _ _).drewN 1).alc _).trans a9);have aI:=κ J;have cV:k.R1<W7.heap.size:=ql ap.o.ring;have cT:k.A1<W7.heap.size:=ql ap.o.row;have bw:Hid (w9.heap[W7.heap.size]? =some (.cells Γa 253 (0,0))):=κ (a9.blk (qB rfl) (by rintro(e | e)<;>omega));clear a9 J;refine⟨_,rfl,qi G.o,d _ _ ?_⟩;clear d K
   repeat (first | (refine jd rfl rfl (qi G.o) ?_) | (refine qE rfl rfl (qi G.o) ?_;intro K d;go_big_quiet_op;go_big_quiet_on))
   refine qP rfl rfl ?_;intro K d;refine jq 253 (.tmp 7) (.tmp 52) rfl W7.heap.size 253 _ #[ι y.id,ι y.layer,y.key,y.pk.mr,υ y.pk.ty,φ y.pk.sq,ω y.pk.st,ω y.pk.sc,δ aV aU aT,y.pk.has,φ y.pk.pr,δ aX aZ aY,δ ba bc bb] rfl rfl bw.o ξ rfl (all_oneCell_toArray (by simp[Value.oneCell'])) ?_;refine⟨qi (G.o.rowNew (Nat.le_refl _) _), ?_⟩;go_simp;refine d _ _ ?_;clear d K
   repeat (first | (refine jd rfl rfl (qi (G.o.rowNew (Nat.le_refl _) _)) ?_) | (refine qE rfl rfl (qi (G.o.rowNew (Nat.le_refl _) _)) ?_;intro K d;go_big_quiet_op;go_big_quiet_on))
   refine ze ?_;go_wp2;go_meet;obtain⟨an,ak,aj,am,J⟩:=aI.o;exact⟨_,rfl,rfl,rfl,jT bw.o _,G.o.rowNew (Nat.le_refl _) _,an,ak,aj,am,J.away (j9 _ _ _) τ τ⟩
 case rest=>
 obtain⟨C,rfl,rfl,rfl,bF,aW,an,ak,aj,am,bG⟩:=hcut;have ao:=κ aW;have bV:=κ bG;have bU:Hid (wc.heap[k.L]? =some (.cells (jO k vo s) 153 (0,0))):=κ (aW.blk bv.o bS);have dn:wc.cell? ⟨C,0,none⟩=some (ι y.id):=qb bF 0 rfl;clear aW bG bF;go_wp2;refine bodyPost_ret (v:= .tuple #[ι y.id,dr,ι 0]) (by simp[results,results136,go_sem]) rfl ?_;obtain⟨⟨cq,cr,ct,cu,cv,cw⟩,⟨cx,cO,cP,cQ,cR⟩,⟨cW,cX,cY,cZ⟩,⟨da,db,dc⟩,⟨dd,de⟩,_⟩:=bx.o;have aH:qg (RgB k.R1 k.A1) w wc:=(qg.of_more aM.o).trans ao.o;have bL: ∀b,RgB k.R1 k.A1 b->k.muts b:=λb H=>Or.inr (Or.inl H)
 have az:qg k.muts w wc:=aH.mono bL;have bT:qg (lnM k vo) w wc:=az.mono λb H=>Or.inl H
 have bk: ∀b,vo.ownBlock=some b->vo.ownBlock=some b∨w.heap.size<=b:=λb H=>Or.inl H
 have bI: ∀b,RgB k.R1 k.A1 b->lnE N k vo b:=λb H=>uf (bL b H)
 have ag:=I.o.ok;have bl:W7.heap.size<=wc.heap.size:=ao.o.size;have bd: ∀b,w.heap.size<=b-> ¬RgB k.R1 k.A1 b:=λb H e=>by rcases e with e | e<;>omega
 have cz:jp RIt (lnE (xd N w wc) k vo) wc (Γj x aa U ad ab af ae) x:=λw'' a=>by
  refine⟨_,_,_,rfl,⟨?_, ?_, ?_⟩,bY.o,ca.o⟩
  ·exact I.o.fresh (vo':=vo) (cj.o.off (λb e=>bd b (aO.o b e).1) ao.o) (λb e=>⟨(aO.o b e).1,Nat.lt_of_lt_of_le (aO.o b e).2 bl⟩) (λb e=>e) a
  ·exact I.o.fresh (vo':=vo) (ck.o.off (λb e=>bd b (aP.o b e).1) ao.o) (λb e=>⟨(aP.o b e).1,Nat.lt_of_lt_of_le (aP.o b e).2 bl⟩) (λb e=>e) a
  ·exact I.o.fresh (vo':=vo) (S6.o.off (λb e=>bd b (aQ.o b e).1) ao.o) (λb e=>⟨(aQ.o b e).1,Nat.lt_of_lt_of_le (aQ.o b e).2 bl⟩) (λb e=>e) a
 have bO:=Am (R:=RIt) (D:=lnE (xd N w wc) k vo) (w:=wc) (room:=s.room) (bu.o.mono λc y cD=>I.o.held cD bT bk) cz;have cA:y.id=cG:=by rw[bZ.o,bP,U3 bu.o];exact ce.o
 have cB:dr=cF:=by rw[<-bW.o,bP];exact cc.o
 rw[cb.o] at bO;rw[<-cA,<-cB];exact⟨rfl,I.o.make az.size bU.o ⟨_,_,_,_,_,_,_,bV.o,bO⟩ (I.o.r2.step aH (by rintro(e | e)<;>omega) (by rintro(e | e)<;>omega) bI λb H=>Or.inl (xD I.o.own bk H)) (I.o.r3.step aH (by rintro(e | e)<;>omega) (by rintro(e | e)<;>omega) bI λb H=>Or.inl (xD I.o.own bk H)) (I.o.rows az) ⟨ag.most,ag.row,ag.lt,ag.sq,ag.src⟩,az.mono λb H=>I.o.muts b H⟩
theorem IF (h:LnX N w k vo s) (x:ItS) (os I J:Option Addr) (H ke G:Nat) (U:PkS w (δ os x.pk.ss.length H) (δ I x.pk.ex.length ke) (δ J x.pk.pl.length G) x.pk) (ab:wP x.pk) (Y:gu x.pk):
  Calls prog 136 #[γ k.L,(Γj x os H I ke J G)] w λe w'=>e= .returned (.tuple #[ι (jL s x).2.1,μ (jL s x).2.2.1,ι (jL s x).2.2.2])/\LnX (xd N w w') w' k vo (jL s x).1/\qg N w w':=by
 by_cases h1:(jc x.layer&&jM x.pk)=false
 ·have e:jL s x=(s,0,false,1):=by unfold jL;rw[if_pos h1]
  rw[e];refine(QC h x os I J H ke G U Y 1 ?_).mono ?_
  ·cases d:jc x.layer with
   | false=>exact Or.inl ⟨rfl,rfl⟩
   | true=>rw[d] at h1;exact Or.inr (Or.inl ⟨rfl,by simpa using h1,rfl⟩)
  ·rintro e w' ⟨rfl,m⟩;exact⟨rfl,h.grow m,qg.of_more m⟩
 ·have d:jc x.layer=true/\jM x.pk=true:=by simpa using h1
  cases hg:s.gone with
  | true=>
   have e:jL s x=(s,0,false,7):=by unfold jL;rw[if_neg h1,if_pos hg]
   rw[e];refine(QC h x os I J H ke G U Y 7 (Or.inr (Or.inr (Or.inl ⟨d.1,d.2,hg,rfl⟩)))).mono ?_;rintro e w' ⟨rfl,m⟩;exact⟨rfl,h.grow m,qg.of_more m⟩
  | false=>
   cases hw:s.wanted with
   | false=>
    have e:jL s x=(s,0,false,5):=by unfold jL;rw[if_neg h1,if_neg (by rw[hg];decide),if_pos hw]
    rw[e];refine(QC h x os I J H ke G U Y 5 (Or.inr (Or.inr (Or.inr ⟨d.1,d.2,hg,hw,rfl⟩)))).mono ?_;rintro e w' ⟨rfl,m⟩;exact⟨rfl,h.grow m,qg.of_more m⟩
   | true=>
    have e:jL s x=((yH s x).1,(yH s x).2.1,(yH s x).2.2,0):=by unfold jL;rw[if_neg h1,if_neg (by rw[hg];decide),if_neg (by rw[hw];decide)]
    rw[e];have O:=UH h x os I J H ke G U ab Y d.1 d.2 hg hw;by_cases hc:s.A.length<s.room
    ·have aa:yH s x=({s with A:=s.A++[x]},0,false):=by unfold yH;rw[if_pos hc]
     rw[aa];simp only[hc,if_true,not_true,decide_false] at O;exact O
    ·have aa:yH s x=({s with A:=s.A.tail++[x]},(s.A.head?.map (·.id)).getD 0,true):=by unfold yH;rw[if_neg hc]
     rw[aa];simp only[hc,if_false,not_false_iff,decide_true] at O;exact O
end
theorem QD {w:World} {base d e n m:Nat} {v:Value} {xs:List Value} (h:w.ownsRow base e n v m xs) (I:d<=base):w.ownsRow d e n v m xs:=by
 obtain⟨G,H⟩:=h;refine⟨G, ?_⟩;rcases H with h | ⟨b,cap,cur,e1,hb1,rest⟩
 ·exact Or.inl h
 ·exact Or.inr ⟨b,cap,cur,e1,Nat.le_trans I hb1,rest⟩
theorem Wx {d:Nat->Prop} {w w1 w2:World} (G:w.heap.size<=w1.heap.size) (H:w1.heap.size<=w2.heap.size):xd (xd d w w1) w1 w2=xd d w w2:=by
 funext b
 apply propext;unfold xd;constructor
 ·rintro((e | e) | e)
  ·exact Or.inl e
  ·exact Or.inr ⟨e.1,τ⟩
  ·exact Or.inr ⟨τ,e.2⟩
 ·rintro(e | e)
  ·exact Or.inl (Or.inl e)
  ·by_cases h:b<w1.heap.size
   ·exact Or.inl (Or.inr ⟨e.1,h⟩)
   ·exact Or.inr ⟨τ,e.2⟩
theorem qV.widen {α:Type} {n:Nat} {R:qJ α} {D D':Nat->Prop} {w:World} {base e:Nat} {v:Value} {L:List α} (h:qV n R D w base e v L) (k: ∀b,D' b->D b∨w.heap.size<=b):qV n R D' w base e v L:=by
 have I:=λ{b} (d:v.ownBlock=some b)=>h.lt d
 obtain⟨⟨xs,o,r⟩,G⟩:=h;refine⟨⟨xs,o,λi hi=>(r i hi).other λb d=> ?_⟩,λb d H=> ?_⟩
 ·rcases d with e | e
  ·rcases k b e with e | e
   ·exact Or.inl (Or.inl e)
   ·exact Or.inr e
  ·exact Or.inl (Or.inr e)
 ·rcases k b H with e | e
  ·exact G b d e
  ·have:=I d;omega
section
variable {D:Nat->Prop} {w:World}
theorem Z3 {q:List (List Value)} {l:List ItS} (a:zq (jp RIt D w) q l):q.map idN=l.map (·.id)/\ ∀c∈q,∃i r,c= ι i::r/\r.length=12:=by
 induction l generalizing q with
 | nil=>rw[a.nil_r];exact⟨rfl,λc d=>by simp at d⟩
 | cons y l ih=>
  obtain⟨c,q',rfl,I,a'⟩:=a.uncons;obtain⟨G,H⟩:=ih a';obtain⟨N,J,vp,rfl,_⟩:=I.read;refine⟨by rw[List.map_cons,List.map_cons,G];rfl,λc d=> ?_⟩;rcases List.mem_cons.1 d with rfl | d
  ·exact⟨_,_,rfl,rfl⟩
  ·exact H c d
theorem Kc {q:List (List Value)} {l:List (ItS×Bool)} (a:zq (jp RCh D w) q l):q.map idN=l.map (·.1.id)/\ ∀c∈q,∃i r,c= ι i::r/\r.length=13:=by
 induction l generalizing q with
 | nil=>rw[a.nil_r];exact⟨rfl,λc d=>by simp at d⟩
 | cons y l ih=>
  obtain⟨c,q',rfl,I,a'⟩:=a.uncons;obtain⟨G,H⟩:=ih a';obtain⟨N,J,vp,rfl,_⟩:=I.read;refine⟨by rw[List.map_cons,List.map_cons,G];rfl,λc d=> ?_⟩;rcases List.mem_cons.1 d with rfl | d
  ·exact⟨_,_,rfl,rfl⟩
  ·exact H c d
theorem VC {q:List (List Value)} {l:List (Int×List Int)} (a:zq (jp ROu D w) q l):q.map idN=l.map (·.1)/\ ∀c∈q,∃i r,c= ι i::r/\r.length=1:=by
 induction l generalizing q with
 | nil=>rw[a.nil_r];exact⟨rfl,λc d=>by simp at d⟩
 | cons y l ih=>
  obtain⟨c,q',rfl,I,a'⟩:=a.uncons;obtain⟨G,H⟩:=ih a';obtain⟨v,rfl,_⟩:=I.read;refine⟨by rw[List.map_cons,List.map_cons,G];rfl,λc d=> ?_⟩;rcases List.mem_cons.1 d with rfl | d
  ·exact⟨_,_,rfl,rfl⟩
  ·exact H c d
end
section
variable {N:Nat->Prop} {w w':World} {k:LnB} {vo:Value} {s s':LnS}
theorem Yb (h:LnX N w k vo s):Calls prog 126 #[γ k.L,ι 1] w λe w'=>(∃v,e= .returned v/\w'.ownsRow w.heap.size 3 1 v (s.A.map (·.id)).length ((s.A.map (·.id)).map (Value.int .i64)))/\LnX (xd N w w') w' k vo {s with A:=[]}/\qg k.muts w w':=by
 have c1:w.cell? ⟨k.L,1,none⟩=some (π (some ⟨k.R1,0,none⟩)):=qb h.blk 1 rfl;have G:=κ h;have ai:=κ h.dist;obtain⟨ax,U,au,av,aq,ar,aw,H,I⟩:=h.r1;have aj:=κ H;have ao:=κ (Z3 I).2;have al:=κ (Z3 I).1;have ap:Hid (∀c∈U,∀u∈c,u.oneCell'=true):=κ λc az=>(H.qall c az).2
 have aA:U.length<=8:=by have:=H.fits;have:=H.pos;omega
 clear h H I
 go_enter func126,ntmps126
 go_wp2_with (first | (go_at_call 180;(go_call Lp w k.R1 k.A1 s.room ax U au av aq ar aw aj.o as e w1 ⟨aB,rfl,ah,H,I⟩;have am:=κ ah;have ak:=κ H;have aa:=κ I;clear ah H I)) | (go_at_call 179;(go_call Oh w1 aB U w.heap.size am.o ao.o ap.o aA as e w2 ⟨⟨aZ,rfl,o2⟩,ag⟩;have an:=κ o2;have ab:=κ ag;clear o2 ag)))
 go_ret;obtain⟨⟨aE,aF,aG,aH,aI,aJ⟩,⟨aK,aL,aM,aN,aO⟩,⟨aQ,aR,aS,aT⟩,⟨aU,aV,aW⟩,⟨aX,aY⟩,_⟩:=ai.o;have O:qg (RgB k.R1 k.A1) w w2:=aa.o.more ab.o;have ae: ∀b,RgB k.R1 k.A1 b->k.muts b:=λb d=>Or.inr (Or.inl d)
 have Y:qg k.muts w w2:=O.mono ae;have af: ∀b,vo.ownBlock=some b->vo.ownBlock=some b∨w.heap.size<=b:=λb d=>Or.inl d
 have ad: ∀b,RgB k.R1 k.A1 b->lnE N k vo b:=λb d=>uf (ae b d)
 have J:=G.o.ok;obtain⟨aP,aC,aD,ay⟩:=ak.o;have ac:=QD an.o aa.o.size;rw[al.o] at ac;exact⟨⟨_,rfl,ac⟩,G.o.make Y.size (O.blk G.o.blk (by rintro(e | e)<;>omega)) ⟨_,_,_,_,_,_,_,ay.more ab.o,trivial⟩ (G.o.r2.step O (by rintro(e | e)<;>omega) (by rintro(e | e)<;>omega) ad λb d=>Or.inl (xD G.o.own af d)) (G.o.r3.step O (by rintro(e | e)<;>omega) (by rintro(e | e)<;>omega) ad λb d=>Or.inl (xD G.o.own af d)) (G.o.rows Y) ⟨J.most,J.row,J.lt,J.sq,J.src⟩,Y⟩
theorem Ya (h:LnX N w k vo s):Calls prog 126 #[γ k.L,ι 2] w λe w'=>(∃v,e= .returned v/\w'.ownsRow w.heap.size 3 1 v (s.B.map (·.1.id)).length ((s.B.map (·.1.id)).map (Value.int .i64)))/\LnX (xd N w w') w' k vo {s with B:=[]}/\qg k.muts w w':=by
 have c1:w.cell? ⟨k.L,2,none⟩=some (π (some ⟨k.R2,0,none⟩)):=qb h.blk 2 rfl;have G:=κ h;have ah:=κ h.dist;obtain⟨aw,U,ar,au,ap,aq,av,H,I⟩:=h.r2;have ai:=κ H;have an:=κ (Kc I).2;have ak:=κ (Kc I).1;have ao:Hid (∀c∈U,∀u∈c,u.oneCell'=true):=κ λc ay=>(H.qall c ay).2
 have az:U.length<=8:=by have:=H.fits;have:=H.pos;omega
 clear h H I
 go_enter func126,ntmps126
 go_wp2_with (first | (go_at_call 183;(go_call Lq w k.R2 k.A2 s.room aw U ar au ap aq av ai.o as e w1 ⟨aA,rfl,ag,H,I⟩;have al:=κ ag;have aj:=κ H;have A2:=κ I;clear ag H I)) | (go_at_call 182;(go_call Oi w1 aA U w.heap.size al.o an.o ao.o az as e w2 ⟨⟨aY,rfl,o2⟩,af⟩;have am:=κ o2;have aa:=κ af;clear o2 af)))
 go_ret;obtain⟨⟨aD,aE,aF,aG,aH,aI⟩,⟨aJ,aK,aL,aM,aN⟩,⟨aP,aQ,aR,aS⟩,⟨aT,aU,aV⟩,⟨aW,aX⟩,_⟩:=ah.o;have O:qg (RgB k.R2 k.A2) w w2:=A2.o.more aa.o;have ad: ∀b,RgB k.R2 k.A2 b->k.muts b:=λb d=>Or.inr (Or.inr (Or.inl d))
 have Y:qg k.muts w w2:=O.mono ad;have ae: ∀b,vo.ownBlock=some b->vo.ownBlock=some b∨w.heap.size<=b:=λb d=>Or.inl d
 have ac: ∀b,RgB k.R2 k.A2 b->lnE N k vo b:=λb d=>uf (ad b d)
 have J:=G.o.ok;obtain⟨aO,aB,aC,ax⟩:=aj.o;have ab:=QD am.o A2.o.size;rw[ak.o] at ab;exact⟨⟨_,rfl,ab⟩,G.o.make Y.size (O.blk G.o.blk (by rintro(e | e)<;>omega)) (G.o.r1.step O (by rintro(e | e)<;>omega) (by rintro(e | e)<;>omega) ac λb d=>Or.inl (xD G.o.own ae d)) ⟨_,_,_,_,_,_,_,ax.more aa.o,trivial⟩ (G.o.r3.step O (by rintro(e | e)<;>omega) (by rintro(e | e)<;>omega) ac λb d=>Or.inl (xD G.o.own ae d)) (G.o.rows Y) ⟨J.most,J.row,J.lt,J.sq,J.src⟩,Y⟩
theorem Z9 (h:LnX N w k vo s):Calls prog 126 #[γ k.L,ι 3] w λe w'=>(∃v,e= .returned v/\w'.ownsRow w.heap.size 3 1 v (s.C.map (·.1)).length ((s.C.map (·.1)).map (Value.int .i64)))/\LnX (xd N w w') w' k vo {s with C:=[]}/\qg k.muts w w':=by
 have c1:w.cell? ⟨k.L,3,none⟩=some (π (some ⟨k.R3,0,none⟩)):=qb h.blk 3 rfl;have G:=κ h;have ai:=κ h.dist;obtain⟨ax,U,au,av,aq,ar,aw,H,I⟩:=h.r3;have aj:=κ H;have ao:=κ (VC I).2;have al:=κ (VC I).1;have ap:Hid (∀c∈U,∀u∈c,u.oneCell'=true):=κ λc az=>(H.qall c az).2
 have aA:U.length<=8:=by have:=H.fits;have:=H.pos;omega
 clear h H I
 go_enter func126,ntmps126
 go_wp2_with (first | (go_at_call 186;(go_call Lo w k.R3 k.A3 s.room ax U au av aq ar aw aj.o as e w1 ⟨aB,rfl,ah,H,I⟩;have am:=κ ah;have ak:=κ H;have aa:=κ I;clear ah H I)) | (go_at_call 185;(go_call Of w1 aB U w.heap.size am.o ao.o ap.o aA as e w2 ⟨⟨aZ,rfl,o2⟩,ag⟩;have an:=κ o2;have ab:=κ ag;clear o2 ag)))
 go_ret;obtain⟨⟨aE,aF,aG,aH,aI,aJ⟩,⟨aK,aL,aM,aN,aO⟩,⟨aQ,aR,aS,aT⟩,⟨aU,aV,aW⟩,⟨aX,aY⟩,_⟩:=ai.o;have O:qg (RgB k.R3 k.A3) w w2:=aa.o.more ab.o;have ae: ∀b,RgB k.R3 k.A3 b->k.muts b:=λb d=>Or.inr (Or.inr (Or.inr d))
 have Y:qg k.muts w w2:=O.mono ae;have af: ∀b,vo.ownBlock=some b->vo.ownBlock=some b∨w.heap.size<=b:=λb d=>Or.inl d
 have ad: ∀b,RgB k.R3 k.A3 b->lnE N k vo b:=λb d=>uf (ae b d)
 have J:=G.o.ok;obtain⟨aP,aC,aD,ay⟩:=ak.o;have ac:=QD an.o aa.o.size;rw[al.o] at ac;exact⟨⟨_,rfl,ac⟩,G.o.make Y.size (O.blk G.o.blk (by rintro(e | e)<;>omega)) (G.o.r1.step O (by rintro(e | e)<;>omega) (by rintro(e | e)<;>omega) ad λb d=>Or.inl (xD G.o.own af d)) (G.o.r2.step O (by rintro(e | e)<;>omega) (by rintro(e | e)<;>omega) ad λb d=>Or.inl (xD G.o.own af d)) ⟨_,_,_,_,_,_,_,ay.more ab.o,trivial⟩ (G.o.rows Y) ⟨J.most,J.row,J.lt,J.sq,J.src⟩,Y⟩
def vU (s:LnS) (n:Int):LnS:={s with A:=if n=1 then [] else s.A,B:=if n=2 then [] else s.B,C:=if n=3 then [] else s.C}
theorem CS (h:LnX N w k vo s) (n:Int) (H:n=1∨n=2∨n=3):Calls prog 126 #[γ k.L,ι n] w λe w'=>(∃v,e= .returned v)/\LnX (xd N w w') w' k vo (vU s n)/\qg k.muts w w':=by
 rcases H with rfl | rfl | rfl
 ·refine(Yb h).mono ?_;rintro e w' ⟨⟨v,rfl,_⟩,d,G⟩;exact⟨⟨v,rfl⟩,d,G⟩
 ·refine(Ya h).mono ?_;rintro e w' ⟨⟨v,rfl,_⟩,d,G⟩;exact⟨⟨v,rfl⟩,d,G⟩
 ·refine(Z9 h).mono ?_;rintro e w' ⟨⟨v,rfl,_⟩,d,G⟩;exact⟨⟨v,rfl⟩,d,G⟩
end
def zt (g b n:Int):Int×Int:=
 if 63<n-g then (n,1) else if 0<n-g then (n,bits .or .u64 (IntKind.u64.wrap (b* 2 ^ (n-g).toNat)) 1)
 else if-63<=n-g then (g,lay b (-(n-g)) 1 1) else (g,b)
def yn (g b m:Int):Bool:=decide (m<=g/\g-m<=63)&&b.toNat.testBit (g-m).toNat
theorem Ak (i:Nat):Nat.testBit 1 i=decide (i=0):=by
 cases i with
 | zero=>rfl
 | succ i=>simp[Nat.testBit_succ]
theorem Ap (b:Int) (k:Nat) (H:U64 b) (O:0<k) (N:k<=63):
  U64 (bits .or .u64 (IntKind.u64.wrap (b* 2 ^ k)) 1)/\ ∀i:Nat,i<64->(bits .or .u64 (IntKind.u64.wrap (b* 2 ^ k)) 1).toNat.testBit i=(decide (i=0)||(decide (k<=i)&&b.toNat.testBit (i-k))):=by
 obtain⟨d,J⟩:=H;obtain⟨B,rfl⟩:=Int.eq_ofNat_of_zero_le d;have e:IntKind.u64.wrap ((B:Int)* 2 ^ k)=((B* 2 ^ k%2 ^ 64:Nat):Int):=by
  rw[IntKind.wrap_u64,Int.natCast_emod,Int.natCast_mul];simp
 have I:B* 2 ^ k%2 ^ 64<2 ^ 64:=Nat.mod_lt _ ζ;have G:bits .or .u64 (IntKind.u64.wrap ((B:Int)* 2 ^ k)) 1=((B* 2 ^ k%2 ^ 64||| 1:Nat):Int):=by
  rw[e,show (1:Int)=((1:Nat):Int) from rfl,u64_or_nat _ _ τ τ]
 have U:(B* 2 ^ k%2 ^ 64||| 1)<2 ^ 64:=Nat.or_lt_two_pow I ζ;rw[G];refine⟨⟨τ,τ⟩,λi hi=> ?_⟩;rw[Int.toNat_natCast,Int.toNat_natCast,Nat.testBit_or,Nat.testBit_mod_two_pow,Nat.testBit_mul_two_pow,Ak];simp only[hi,decide_true,Bool.true_and];rw[Bool.or_comm]
theorem QL (g b n:Int):(zt g b n).1=max g n:=by
 unfold zt;split
 ·simp;omega
 ·split
  ·simp;omega
  ·split<;>(simp;omega)
theorem VO (g b n:Int) (d:U64 b):U64 (zt g b n).2:=by
 unfold zt;split
 ·exact⟨(by decide:(0:Int)<=1),(by decide:(1:Int)<=18446744073709551615)⟩
 ·split
  ·exact(Ap b _ d τ τ).1
  ·split
   ·exact FF _ _ _ _ d
   ·exact d
theorem FE (b k:Int) (G:U64 b) (d:0<=k/\k<=63) (i:Nat) (hi:i<64):(lay b k 1 1).toNat.testBit i=(decide (i=k.toNat)||b.toNat.testBit i):=by
 rw[PU b k 1 1 ⟨d.1,d.2,τ,τ⟩,Qi];simp only[hi,decide_true,Bool.true_and];by_cases h:i=k.toNat
 ·subst h;simp
 ·rw[if_neg (by simp;omega)];simp[h]
theorem Z2 (g b n m:Int) (N:U64 b):yn (zt g b n).1 (zt g b n).2 m=(decide (m<=max g n/\max g n-m<=63)&&(decide (m=n)||yn g b m)):=by
 have O:=QL g b n;by_cases hin:m<=max g n/\max g n-m<=63
 ·rw[show yn (zt g b n).1 (zt g b n).2 m=(zt g b n).2.toNat.testBit (max g n-m).toNat from by unfold yn;rw[O];simp[hin]];simp only[hin,and_self,decide_true,Bool.true_and];unfold zt;by_cases h1:63<n-g
  ·rw[if_pos h1];have e:max g n=n:=by omega
   rw[e] at *;unfold yn;by_cases d:m=n
   ·subst d;simp
   ·have:(n-m).toNat≠0:=by omega
    simp only[d,decide_false,Bool.false_or];have I: ¬(m<=g/\g-m<=63):=by omega
    simp only[I,decide_false,Bool.false_and];rw[show (1:Int).toNat=1 from rfl,Ak];simp;omega
  ·rw[if_neg h1];by_cases I:0<n-g
   ·rw[if_pos I];have e:max g n=n:=by omega
    rw[e] at *;simp only[];rw[(Ap b (n-g).toNat N τ τ).2 _ τ];unfold yn;by_cases d:m=n
    ·subst d;simp
    ·have G:(n-m).toNat≠0:=by omega
     by_cases h4:m<=g
     ·have J:(n-g).toNat<=(n-m).toNat:=by omega
      have H:m<=g/\g-m<=63:=by omega
      simp only[d,G,J,H,and_self,decide_true,decide_false,Bool.false_or,Bool.true_and];rw[show (n-m).toNat-(n-g).toNat=(g-m).toNat from by omega]
     ·have J: ¬(n-g).toNat<=(n-m).toNat:=by omega
      simp[d,G,h4,J]
   ·rw[if_neg I];have e:max g n=g:=by omega
    rw[e] at *;by_cases G: -63<=n-g
    ·rw[if_pos G,FE b _ N τ _ τ];unfold yn;have H:m<=g/\g-m<=63:=by omega
     have U:decide ((g-m).toNat=(-(n-g)).toNat)=decide (m=n):=by rw[Bool.eq_iff_iff];simp;omega
     rw[U];simp[H]
    ·rw[if_neg G];unfold yn;have d:m≠n:=by omega
     have H:m<=g/\g-m<=63:=by omega
     simp[d,H]
 ·have:yn (zt g b n).1 (zt g b n).2 m=false:=by
   unfold yn;rw[O];simp only[hin,decide_false,Bool.false_and]
  rw[this];simp only[hin,decide_false,Bool.false_and]
theorem EK (g b c:Int) (H:U64 b) (I:U64 c) (h: ∀m,yn g b m=yn g c m):b=c:=by
 obtain⟨d,J⟩:=H;obtain⟨G,c1⟩:=I;obtain⟨B,rfl⟩:=Int.eq_ofNat_of_zero_le d;obtain⟨C,rfl⟩:=Int.eq_ofNat_of_zero_le G;have:B=C:=by
  apply Cu τ τ;intro i hi;have:=h (g-i);unfold yn at this;have e:g-(i:Int)<=g/\g-(g-(i:Int))<=63:=by omega
  simp only[e,and_self,decide_true,Bool.true_and,Int.toNat_natCast] at this
  rwa [show (g-(g-(i:Int))).toNat=i from by omega] at this
 rw[this]
theorem Gr {g b m:Int} (h:yn g b m=true):m<=g/\g-m<=63:=by
 unfold yn at h;simp only[Bool.and_eq_true,decide_eq_true_eq] at h;exact h.1
theorem Lg (g b n:Int) (d:U64 b) (h:g-63<=n):((zt g b n).1==g&&(zt g b n).2==b)=yn g b n:=by
 have G:=QL g b n;by_cases hle:n<=g
 ·have e:(zt g b n).1=g:=by rw[G];omega
  rw[e];simp only[BEq.rfl,Bool.true_and];by_cases hk:yn g b n=true
  ·rw[hk,beq_iff_eq];apply EK g _ _ (VO g b n d) d;intro m;have:=Z2 g b n m d;rw[e] at this;rw[this];by_cases hm:m=n
   ·subst hm;rw[hk];have:=Gr hk;simp;omega
   ·by_cases hkm:yn g b m=true
    ·have:=Gr hkm;simp[hkm];omega
    ·simp only[Bool.not_eq_true] at hkm;simp[hm,hkm]
  ·simp only[Bool.not_eq_true] at hk;rw[hk];simp only[beq_eq_false_iff_ne,ne_eq];intro H;have:=Z2 g b n n d;rw[e,H,hk] at this;simp at this;omega
 ·have e:((zt g b n).1==g)=false:=by rw[G];simp;omega
  rw[e,Bool.false_and];unfold yn;have: ¬(n<=g/\g-n<=63):=by omega
  simp[this]
theorem GU:prog.eqGuardType prog.depth 233=false:=by kernel_rfl
theorem Yk (n:Int) (w:World):
  Calls prog 237 #[ι n] w λe w'=>e= .returned (θ #[ι n,ψ 1])/\qa w w':=by
 go_enter func237,ntmps237
 go_wp2;exact bodyPost_ret (v:= θ #[ι n,ψ 1]) (by simp[results,results237,go_sem]) rfl ⟨rfl,(qa.refl _).al _⟩
theorem Eq (g b n:Int) (H: -2305843009213693952<=g/\g<=2305843009213693952) (I: -2305843009213693952<=n/\n<=2305843009213693952) (O:63<n-g) (w:World):
  Calls prog 236 #[θ #[ι g,ψ b],ι n] w λe w'=>e= .returned (θ #[ι n,ψ 1])/\qa w w':=by
 obtain⟨J,N⟩:=H;obtain⟨Y,n2⟩:=I
 go_enter func236,ntmps236
 go_wp2_with (go_at_call 237;refine(Yk n _).mono ?_;rintro e w1 ⟨rfl,d⟩;obtain⟨G,U⟩:=d.rules)
 refine bodyPost_ret (v:= θ #[ι n,ψ 1]) (by simp[results,results236,go_sem,G]) rfl ⟨rfl, ?_⟩;exact((((qa.refl w).al _).al _ |>.trans d).st η _).st η _
theorem Hm (g b n:Int) (d: -2305843009213693952<=g/\g<=2305843009213693952) (G: -2305843009213693952<=n/\n<=2305843009213693952) (J:n-g<=63) (N:0<n-g) (w:World):
  Calls prog 236 #[θ #[ι g,ψ b],ι n] w λe w'=>e= .returned (θ #[ι n,ψ (bits .or .u64 (IntKind.u64.wrap (b* 2 ^ (n-g).toNat)) 1)])/\qa w w':=by
 obtain⟨H,I⟩:=d;obtain⟨O,n2⟩:=G
 go_enter func236,ntmps236
 go_wp2;refine bodyPost_ret (v:= θ #[ι n,ψ (bits .or .u64 (IntKind.u64.wrap (b* 2 ^ (n-g).toNat)) 1)]) (by simp[results,results236,go_sem]) rfl ⟨rfl, ?_⟩;exact((qa.refl w).al _).al _
theorem Ep (g b n:Int) (d: -2305843009213693952<=g/\g<=2305843009213693952) (G: -2305843009213693952<=n/\n<=2305843009213693952) (J:n-g< -63) (w:World):
  Calls prog 236 #[θ #[ι g,ψ b],ι n] w λe w'=>e= .returned (θ #[ι g,ψ b])/\qa w w':=by
 obtain⟨H,I⟩:=d;obtain⟨N,n2⟩:=G
 go_enter func236,ntmps236
 go_wp2;refine bodyPost_ret (v:= θ #[ι g,ψ b]) (by simp[results,results236,go_sem]) rfl ⟨rfl, ?_⟩;exact((qa.refl w).al _).al _
theorem Hn (g b n:Int) (I: -2305843009213693952<=g/\g<=2305843009213693952) (J: -2305843009213693952<=n/\n<=2305843009213693952) (G:U64 b) (aa:n-g<=0) (ab: -63<=n-g) (w:World):
  Calls prog 236 #[θ #[ι g,ψ b],ι n] w λe w'=>e= .returned (θ #[ι g,ψ (lay b (-(n-g)) 1 1)])/\qa w w':=by
 obtain⟨U,Y⟩:=I;obtain⟨ad,n2⟩:=J;have H:=κ G;clear G;have N: ∀x:qp (w.alloc (.cells #[ι g,ψ b] 233)),x.w'.cell? ⟨w.heap.size,0,none⟩=some (ι g):=λx=>x.new 0 rfl
 have O: ∀x:qp (w.alloc (.cells #[ι g,ψ b] 233)),x.w'.cell? ⟨w.heap.size,1,none⟩=some (ψ b):=λx=>x.new 1 rfl
 go_enter func236,ntmps236
 go_wp2_with fail
 refine Qn (w.alloc (.cells #[ι g,ψ b] 233)) 8 9 [6,8] ?_
 refine Qq6 ?_
 (refine Ql ?_;intro K d)
 refine(Hr b 1 _ _ H.o ζ (by unfold I64;omega) ζ _).mono ?_;rintro e w2 ⟨rfl,ac,rfl⟩;refine⟨_,rfl,qj (((qa.alloc _ _).dr _).dr _),d _ _ ?_⟩;clear d K
 refine Qq1 ?_
 (refine Qe ?_;intro K d)
 refine d _ _ ?_;clear d K;refine qv ?_;go_wp2;refine bodyPost_ret (v:= θ #[ι g,ψ (lay b (-(n-g)) 1 1)]) (by simp[results,results236,go_sem]) rfl ⟨rfl, ?_⟩;exact(((((qa.refl w).al _).al _).dr _).st η _).st η _
def Mid (n:Int):Prop:= -2305843009213693952<=n/\n<=2305843009213693952
instance (n:Int):Decidable (Mid n):=by unfold Mid;infer_instance
theorem Qa (g b n:Int) (d:Mid g) (G:Mid n) (H:U64 b) (w:World):
  Calls prog 236 #[θ #[ι g,ψ b],ι n] w λe w'=>e= .returned (θ #[ι (zt g b n).1,ψ (zt g b n).2])/\qa w w':=by
 by_cases h1:63<n-g
 ·rw[show zt g b n=(n,1) from by unfold zt;rw[if_pos h1]];exact Eq g b n d G h1 w
 ·by_cases h2:0<n-g
  ·rw[show zt g b n=(n,bits .or .u64 (IntKind.u64.wrap (b* 2 ^ (n-g).toNat)) 1) from by unfold zt;rw[if_neg h1,if_pos h2]];exact Hm g b n d G τ h2 w
  ·by_cases h3: -63<=n-g
   ·rw[show zt g b n=(g,lay b (-(n-g)) 1 1) from by unfold zt;rw[if_neg h1,if_neg h2,if_pos h3]];exact Hn g b n d G H τ h3 w
   ·rw[show zt g b n=(g,b) from by unfold zt;rw[if_neg h1,if_neg h2,if_neg h3]];exact Ep g b n d G τ w
theorem Ht (g b n:Int) (Y:Mid g) (aa:Mid n) (O:U64 b) (w:World):
  Calls prog 248 #[θ #[ι g,ψ b],ι n] w λe w'=>e= .returned (μ (yn g b n))/\qa w w':=by
 have I:=κ O;have J:=κ Y;have N:=κ aa;have U:U64 b:=O;clear O;obtain⟨ae,af⟩:=Y;obtain⟨ah,n2⟩:=aa;have ac: ∀x:qp (w.alloc (.cells #[ι g,ψ b] 233)),x.w'.cell? ⟨w.heap.size,0,none⟩=some (ι g):=λx=>x.new 0 rfl
 have ad: ∀x:qp (w.alloc (.cells #[ι g,ψ b] 233)),x.w'.cell? ⟨w.heap.size,1,none⟩=some (ψ b):=λx=>x.new 1 rfl
 have ab:=GU;by_cases hlt:g-63<=n
 ·have H:=Lg g b n U hlt;clear U;by_cases e1:(zt g b n).1=g
  ·by_cases e2:(zt g b n).2=b
   ·have d:=κ (show true=yn g b n by rw[<-H];simp[e1,e2]);clear H
    go_enter func248,ntmps248
    go_wp2;refine qz (w.alloc (.cells #[ι g,ψ b] 233)) (qa.refl _) ξ ξ ?_
    repeat (go_big_quiet_step ((go_at_call 236;exact jY (Qa g b n J.o N.o I.o _))))
    refine wpQuiet_nil ?_;intro _ G;obtain⟨x,rfl⟩:=G;go_wp2;go_ret;exact⟨jf d.o,(qa.alloc _ _).trans x.h⟩
   ·have d:=κ (show false=yn g b n by rw[<-H];simp[e2]);clear H
    go_enter func248,ntmps248
    go_wp2;refine qz (w.alloc (.cells #[ι g,ψ b] 233)) (qa.refl _) ξ ξ ?_
    repeat (go_big_quiet_step ((go_at_call 236;exact jY (Qa g b n J.o N.o I.o _))))
    refine wpQuiet_nil ?_;intro _ G;obtain⟨x,rfl⟩:=G;go_wp2;go_ret;exact⟨jf d.o,(qa.alloc _ _).trans x.h⟩
  ·have d:=κ (show false=yn g b n by rw[<-H];simp[e1]);clear H
   go_enter func248,ntmps248
   go_wp2;refine qz (w.alloc (.cells #[ι g,ψ b] 233)) (qa.refl _) ξ ξ ?_
   repeat (go_big_quiet_step ((go_at_call 236;exact jY (Qa g b n J.o N.o I.o _))))
   refine wpQuiet_nil ?_;intro _ G;obtain⟨x,rfl⟩:=G;go_wp2;go_ret;exact⟨jf d.o,(qa.alloc _ _).trans x.h⟩
 ·have d:=κ (show false=yn g b n by unfold yn;simp[show ¬(n<=g/\g-n<=63) by omega]);clear U;have ag:decide (g-63<=n)=false:=by simp;omega
  clear hlt
  go_enter func248,ntmps248
  go_wp2;refine qz (w.alloc (.cells #[ι g,ψ b] 233)) (qa.refl _) ξ ξ ?_
  repeat (go_big_quiet_step (fail))
  refine wpQuiet_nil ?_;intro _ G;obtain⟨x,rfl⟩:=G;go_wp2;go_ret;exact⟨jf d.o,(qa.alloc _ _).trans x.h⟩
abbrev Hd:=Int×Int×Int
def hd1 (h:Hd):List Value:=[.int .i64 h.1,.int .i64 h.2.1,.int .i64 h.2.2]
def hdC (l:List Hd):List Value:=l.flatMap hd1
theorem gX (h:Hd) (l:List Hd):hdC (h::l)=hd1 h++hdC l:=rfl
theorem uS (k l:List Hd):hdC (k++l)=hdC k++hdC l:=by simp[hdC]
theorem yw (l:List Hd):(hdC l).length=l.length* 3:=by
 induction l with
 | nil=>rfl
 | cons p l ih=>rw[gX,List.length_append,ih,List.length_cons];simp[hd1];omega
theorem Au: ∀(l:List Hd) (i:Nat),i<l.length->(hdC l)[i* 3]? =some (ι (l.getD i (0,0,0)).1)/\(hdC l)[i* 3+1]? =some (ι (l.getD i (0,0,0)).2.1)/\(hdC l)[i* 3+2]? =some (ι (l.getD i (0,0,0)).2.2)
 | [],_,h=>absurd h η
 | h::l,0,_=>⟨rfl,rfl,rfl⟩
 | h::l,i+1,hi=>by
  have d:=Au l i (by simpa using hi);have e: ∀c,(hdC (h::l))[(i+1)* 3+c]? =(hdC l)[i* 3+c]? :=by
   intro c;rw[gX,List.getElem?_append_right (by simp[hd1];omega)]
   congr 1
   simp[hd1];omega
  have e0:=e 0;rw[Nat.add_zero,Nat.add_zero] at e0;rw[e0,e 1,e 2];exact d
theorem YP (l:List Hd): ∀u∈hdC l,u.oneCell'=true:=by
 intro u d;obtain⟨h,_,d⟩:=List.mem_flatMap.1 d;simp[hd1] at d;rcases d with rfl | rfl | rfl<;>rfl
def zY (w:World) (base:Nat) (v:Value) (L:List Hd):Prop:=w.ownsRow base 338 3 v L.length (hdC L)
theorem zY.more {w w':World} {base:Nat} {v:Value} {L:List Hd} (h:zY w base v L) (m:qa w w'):zY w' base v L:=jy h m
theorem zY.shape {w:World} {base:Nat} {v:Value} {L:List Hd} (h:zY w base v L): ∃oa cap,v= δ oa L.length cap/\(L.length:Int)<=9223372036854775807:=by
 rcases h.2 with ⟨rfl,d⟩ | ⟨g,cap,cur,rfl,_,_,H,G,_⟩
 ·exact⟨none,0,by rw[d],τ⟩
 ·exact⟨_,cap,rfl,by unfold maxLen at G;omega⟩
theorem zY.cell {w:World} {base:Nat} {v:Value} {L:List Hd} (h:zY w base v L) (i:Nat) (hi:i<L.length):
  ∃g cap,v= δ (some ⟨g,0,none⟩) L.length cap/\base<=g/\g<w.heap.size/\ ∀x,qa w x->x.cell? ⟨g,i* 3,none⟩=some (ι (L.getD i (0,0,0)).1)/\x.cell? ⟨g,i* 3+1,none⟩=some (ι (L.getD i (0,0,0)).2.1)/\x.cell? ⟨g,i* 3+2,none⟩=some (ι (L.getD i (0,0,0)).2.2):=by
 rcases h.2 with ⟨rfl,O⟩ | ⟨g,cap,cur,rfl,I,d,Y,U,aa,N⟩
 ·omega
 ·refine⟨g,cap,rfl,I,lt_of_block d,λx m=> ?_⟩;obtain⟨a0,G,H⟩:=Au L i hi;have key: ∀j,j<L.length* 3->x.cell? ⟨g,j,none⟩=(hdC L)[j]? :=by
   intro j J;rw[m.cells g j (lt_of_block d),cell_of_row w g _ cur _ (0,0) d,<-N,List.getElem?_take,if_pos J];simp
  exact⟨by rw[key _ τ];exact a0,by rw[key _ τ];exact G,by rw[key _ τ];exact H⟩
def Js (p:Hd->Bool) (L:List Hd):Int:=if L.findIdx p<L.length then (L.findIdx p:Int) else -1
theorem CH {p:Hd->Bool} {L:List Hd} {k:Nat} (d:k<L.length) (h:p (L.getD k (0,0,0))=true) (G: ∀j,j<k->p (L.getD j (0,0,0))=false):Js p L=k:=by
 have e:L.findIdx p=k:=by
  rw[List.findIdx_eq d];rw[List.getD_eq_getElem?_getD,List.getElem?_eq_getElem d,Option.getD_some] at h;refine⟨h,λj H=> ?_⟩;have:=G j H
  rwa [List.getD_eq_getElem?_getD,List.getElem?_eq_getElem τ,Option.getD_some] at this
 unfold Js;rw[e,if_pos d]
theorem Dd {p:Hd->Bool} {L:List Hd} (G: ∀j,j<L.length->p (L.getD j (0,0,0))=false):Js p L= -1:=by
 have e:L.findIdx p=L.length:=by
  rw[List.findIdx_eq_length];intro x H;obtain⟨j,d,rfl⟩:=List.mem_iff_getElem.1 H;have:=G j d
  rwa [List.getD_eq_getElem?_getD,List.getElem?_eq_getElem d,Option.getD_some] at this
 unfold Js;rw[e,if_neg (Nat.lt_irrefl _)]
theorem CI (p:Hd->Bool) (L:List Hd):decide (0<=Js p L)=L.any p:=by
 unfold Js;by_cases h:L.findIdx p<L.length
 ·rw[if_pos h,decide_eq_true τ];exact(List.any_eq_true.2 ⟨L[L.findIdx p],List.getElem_mem _,List.findIdx_getElem⟩).symm
 ·rw[if_neg h];have e:L.any p=false:=by
   rw[List.any_eq_false];intro x G d;exact h (List.findIdx_lt_length_of_exists ⟨x,G,d⟩)
  rw[e];rfl
def ZG (g:Nat) (lb:Array Value) (p:Hd->Bool) (L:List Hd) (w:World):Prop:=
 ∀(W:World) (x:Hd),x∈L->qa w W->Calls Tryz.prog g (#[.agg #[.int .i64 x.1,.int .i64 x.2.1,.int .i64 x.2.2]]++lb) W λe w'=>e= .returned (.bool (p x))/\qa W w'
theorem wL (g:Nat) (lb:Array Value) (p:Hd->Bool) (ab: ∀args w,(callFunc g args).run prog w= .ok (.enter g args) w) (L:List Hd) (v:Value) (base:Nat) (w:World) (row:zY w base v L) (af:ZG g lb p L w):
  Calls prog 231 #[v,.func (.func g) #[] lb] w λe w'=>e= .returned (ι (Js p L))/\qa w w':=by
 have ah:=κ row;have ag:=κ af;obtain⟨aq,cap,rfl,an⟩:=row.shape;clear row af
 go_enter func231,ntmps231
 go_wp2
 go_loopw [5,8] (λ_ aa wr=> ∃k:Nat,k<=L.length/\aa= ι k/\(∀j,j<k->p (L.getD j (0,0,0))=false)/\qa w wr) (λ_ aa _=>L.length-(intOf aa).toNat)
 case atStart=>exact⟨0,τ,rfl,λj ae=>absurd ae (Nat.not_lt_zero _),qa.refl _⟩
 case round=>
  obtain⟨k,ap,rfl,ac,J⟩:=hrel;have I:=κ ac;have O:=κ J;clear ac;by_cases hlt:k<L.length
  ·have aj:(k:Int)<(L.length:Int):=by omega
   obtain⟨b,c,e,_,ao,ad⟩:=ah.o.cell k hlt;cases e;obtain⟨ai,c1,c2⟩:=ad wr J;have d:=ag.o wr (L.getD k (0,0,0)) (by rw[List.getD_eq_getElem?_getD,List.getElem?_eq_getElem hlt];exact List.getElem_mem hlt) J;have Y:Hid (p (L.getD k (0,0,0))=true->Js p L=k):=κ λh=>CH hlt h I.o
   have U:Hid (p (L.getD k (0,0,0))=false-> ∀j,j<k+1->p (L.getD j (0,0,0))=false):=κ λh j ae=>by
    by_cases e:j=k
    ·subst e;exact h
    ·exact I.o j τ
   clear ad J I;generalize L.getD k (0,0,0)=y at *;obtain⟨ak,al,am⟩:=y;simp only at ai c1 c2 d;cases hq:p (ak,al,am) with
   | true=>
    rw[hq] at d;have G:=κ (Y.o hq);clear Y U hq
    go_wp2_with (refine d.mono ?_;rintro e w' ⟨rfl,H⟩;have N:=κ H;clear H d ab)
    go_ret;exact⟨by rw[G.o];rfl,O.o.trans N.o⟩
   | false=>
    rw[hq] at d;have G:=κ (U.o hq);clear Y U hq
    go_wp2_with (refine d.mono ?_;rintro e w' ⟨rfl,H⟩;have N:=κ H;clear H d ab)
    go_roundw
    case rel=>exact⟨k+1,τ,by go_num,G.o,O.o.trans N.o⟩
    case measure=>simp[intOf];omega
  ·obtain rfl:k=L.length:=by omega
   have G:=κ (Dd I.o);have aj: ¬(L.length:Int)<(L.length:Int):=by omega
   go_wp2;go_ret;exact⟨by rw[G.o];rfl,O.o⟩
theorem xr (g:Nat) (lb:Array Value) (p:Hd->Bool) (I: ∀args w,(callFunc g args).run prog w= .ok (.enter g args) w) (L:List Hd) (v:Value) (base:Nat) (w:World) (row:zY w base v L) (d:ZG g lb p L w):
  Calls prog 173 #[v,.func (.func g) #[] lb] w λe w'=>e= .returned (μ (L.any p))/\qa w w':=by
 have H:=κ row;have G:=κ d;obtain⟨O,cap,rfl,N⟩:=row.shape;rw[<-CI];clear row d
 go_enter func173,ntmps173
 go_wp2_with (go_at_call 231;((with_reducible refine(wL g lb p I L _ base _ H.o G.o).mono ?_);rintro e w1 ⟨rfl,J⟩))
 go_ret;exact⟨rfl,J⟩
def xP (cur:List Value) (o:Nat) (vs:List Value):List Value:=cur.take o++vs++cur.drop (o+vs.length)
theorem ux {cur d:List Value} {o:Nat} (h:o+d.length<=cur.length):(xP cur o d).length=cur.length:=by
 unfold xP;rw[List.length_append,List.length_append,List.length_take,List.length_drop];omega
theorem jK {w:World} {g e:Nat} {cur:Array Value} (h:w.heap[g]? =some (.cells cur e (0,0))) (cs:Array Value):(w.setRow g cs).heap[g]? =some (.cells cs e (0,0)):=setRow_heap w g cur cs e (0,0) h
theorem qg.setRow (w:World) (g:Nat) (cs:Array Value):qg (λk=>k=g) w (w.setRow g cs):=by
 refine⟨rfl,rfl,rfl,by simp[World.setRow],λb G d=> ?_⟩;unfold World.setRow;simp only;rw[Array.getElem?_modify,if_neg (λe=>d e.symm)]
section
variable {P:Program}
theorem yN (w:World) (t ad e:TypeId) (i:TypeInfo) (ac:P.underlying t=some (.slice e)) (hi:P.info? e=some i) (g o G J:Nat) (cur:Array Value) (Y:w.heap[g]? =some (.cells cur e (0,0)))
  (a:Addr) (d I:Nat) (cs:List Value) (aa:cs.length=Nat.min d G* i.size) (ab: ∀j v,cs[j]? =some v->w.cell? (a.add j)=some v) (U:o+cs.length<=cur.size) (N: ∀v∈cs,v.oneCell'=true):
  (Builtin.copy_ #[t,t] ad #[δ (some ⟨g,o,none⟩) G J,δ (some a) d I]).run P w= .ok (goInt (Nat.min d G)) (w.setRow g (xP cur.toList o cs).toArray):=by
 have O:=run_firstCells_some (P:=P) (w:=w) i.size (Nat.min d G) a d I cs aa ab;have H:=run_storeCells_at P g o e cs 0 cur w Y (by simpa using U) N;simp only[Nat.add_zero] at H;unfold xP;simp[Builtin.copy_,run_underlying ac,Builtin.lenOf,sizeOf,typeInfo,hi,O,H]
theorem Zm (w:World) (t O e:TypeId) (z:Value) (J:P.underlying t=some (.slice e)) (N:(zeroValue e).run P w= .ok z w) (g o n c:Nat) (U:0<n) (cur:Array Value) (I:w.heap[g]? =some (.cells cur e (0,0)))
  (H:o+(Builtin.zeroCells z.cells n).toList.length<=cur.size) (G: ∀v∈(Builtin.zeroCells z.cells n).toList,v.oneCell'=true):
  (Builtin.clear_ #[t] O #[δ (some ⟨g,o,none⟩) n c]).run P w= .ok (.tuple #[]) (w.setRow g (xP cur.toList o (Builtin.zeroCells z.cells n).toList).toArray):=by
 have d:=run_storeCells_at P g o e (Builtin.zeroCells z.cells n).toList 0 cur w I (by simpa using H) G;simp only[Nat.add_zero] at d;obtain⟨m,rfl⟩: ∃m,n=m+1:=⟨n-1,τ⟩;unfold xP;simp[Builtin.clear_,run_underlying J,N,d]
theorem Jw {ops:Array Oper} {o:Oper} {a:Act} {w:World} {K:Act->World->Prop} {Q:Exit->Act->World->Prop} {E:Prop}
  (G:o.guard=none) (s x:Operand) (t t':TypeId) (H:o.op=Op.call {callee:=Callee.builtin Builtin.append,args:= #[s,x],argTypes:= #[t,t']})
  (v u:Value) (J:a.eval s=v) (O:a.eval x=u) {v':Value} {w':World} (I:(Builtin.append_ #[t,t'] o.type #[v,u]).run P w= .ok v' w') (d:K (a.put o.dst v') w'):
  if Region.wanted o (yielded ops a.tmps)=true then Oper.wp P o a w K Q else E:=by
 have N:Region.wanted o (yielded ops a.tmps)=true:=by simp[Region.wanted,G]
 rw[if_pos N];unfold Oper.wp;simp[execOp,H,resolve,invoke,builtin,J,O,I,Result.andThen];exact d
end
theorem GN (w:World):(zeroValue 338).run prog w= .ok (θ #[ι 0,ι 0,ι 0]) w:=by kernel_rfl
theorem KU:(Builtin.zeroCells (θ #[ι 0,ι 0,ι 0]).cells 1).toList=[ι 0,ι 0,ι 0]:=by kernel_rfl
theorem Vk (h:Hd) (T:List Hd) (v:Value) (base:Nat) (w:World) (row:zY w base v (h::T)):
  Calls prog 235 #[v,ι 0,ι 1] w λe w'=> ∃v',e= .returned v'/\zY w' base v' T/\qg (λk=>v.ownBlock=some k) w w'/\v'.ownBlock=v.ownBlock:=by
 obtain⟨ag,⟨_,aa⟩ | ⟨g,cap,cur,rfl,ar,J,U,ab,ac,Y⟩⟩:=row
 ·simp at aa
 rw[List.length_cons] at ag U Y ⊢;obtain⟨ax,aj,av,am,aw⟩:=info_parts (P:=prog) (e:=338) (z:= θ #[ι 0,ι 0,ι 0]) (size:=3) (bytes:=24) ξ;obtain⟨n,O⟩:=ν (T.length);rw[O] at ag U Y ⊢;have d:(hdC T).length=n* 3:=by rw[yw,O]
 have ai:cur.toList.length=cap* 3:=by simpa using ac
 obtain⟨A,ay,ak⟩: ∃A:Addr,(if cap=1 then some (⟨g,0,none⟩:Addr) else some ⟨g,3,none⟩)=some A/\ ∀j u,(hdC T)[j]? =some u->w.drew.cell? (A.add j)=some u:=by
  by_cases h1:cap=1
  ·refine⟨⟨g,0,none⟩,by simp[h1],λj u H=> ?_⟩;have aa:(hdC T).length=0:=by rw[d];omega
   rw[List.length_eq_zero_iff.1 aa] at H;simp at H
  ·refine⟨⟨g,3,none⟩,by simp[h1],λj u H=> ?_⟩;have aC:j<n* 3:=by rw[<-d];exact(List.getElem?_eq_some_iff.1 H).1
   rw[Addr.add_lit];show w.cell? ⟨g,3+j,none⟩=some u;rw[cell_of_row w g _ cur _ (0,0) J];have e:(hdC (h::T))[3+j]? =some u:=by
    rw[gX,List.getElem?_append_right (by simp[hd1])]
    simpa [hd1] using H
   rw[<-Y,List.getElem?_take,if_pos τ] at e
   simpa using e
 have ae: ∀G,(Builtin.append_ #[230,230] G #[δ (some ⟨g,0,none⟩) 0 cap,δ (some A) n (cap-1)]).run prog w.drew= .ok (δ (some ⟨g,0,none⟩) n cap) (w.drew.setRow g (hdC T++cur.toList.drop (n* 3)).toArray):=by
  intro G;have:=run_append_room (P:=prog) (w:=w.drew) 230 G 338 ax underlying230 aj g 0 cap cur J A n (cap-1) (hdC T) (by rw[am];exact d) ak (YP T) τ (by rw[d];have:cur.size=cap* 3:=ac;omega);rw[Nat.zero_add,Nat.zero_mul,Nat.zero_add,List.take_zero,List.nil_append,d] at this;exact this
 obtain⟨W1,I⟩: ∃W1,W1=w.drew.setRow g (hdC T++cur.toList.drop (n* 3)).toArray:=⟨_,rfl⟩;have ad:W1.heap[g]? =some (.cells (hdC T++cur.toList.drop (n* 3)).toArray 338 (0,0)):=by rw[I];exact jK (w:=w.drew) J _
 have ah:qg (λk=>k=g) w W1:=by rw[I];exact(show qg (λk=>k=g) w w.drew from qg.of_more (qa.drewN w 1)).trans (qg.setRow w.drew g _)
 have N:(hdC T++cur.toList.drop (n* 3)).length=cap* 3:=by rw[List.length_append,List.length_drop,d,ai];omega
 have af: ∀G c,(Builtin.clear_ #[230] G #[δ (some ⟨g,n* 3,none⟩) 1 c]).run prog W1= .ok (.tuple #[]) (W1.setRow g (xP (hdC T++cur.toList.drop (n* 3)) (n* 3) [ι 0,ι 0,ι 0]).toArray):=by
  intro G c;have:=Zm (P:=prog) W1 230 G 338 (θ #[ι 0,ι 0,ι 0]) underlying230 (GN W1) g (n* 3) 1 c ζ _ ad (by rw[KU];show n* 3+3<=_;rw[List.size_toArray,N];omega) (by rw[KU];intro v al;simp at al;rw[al];rfl);rw[KU] at this
  simpa using this
 have ao:Hid (zY (W1.setRow g (xP (hdC T++cur.toList.drop (n* 3)) (n* 3) [ι 0,ι 0,ι 0]).toArray) base (δ (some ⟨g,0,none⟩) n cap) T):=κ (by
  refine⟨by rw[yw],Or.inr ⟨g,cap,_,by rw[O],ar,jK ad _,τ,ab, ?_, ?_⟩⟩
  ·rw[List.size_toArray,ux (by rw[N];show n* 3+3<=_;omega),N]
  ·unfold xP;rw[O];simp only[List.append_assoc]
   rw[List.take_append_of_le_length (by rw[List.length_take,List.length_append,d];omega),List.take_take,Nat.min_self,List.take_append_of_le_length (by rw[d];exact Nat.le_refl _),List.take_of_length_le (by rw[d];exact Nat.le_refl _)])
 have an:Hid (qg (λk=>k=g) w (W1.setRow g (xP (hdC T++cur.toList.drop (n* 3)) (n* 3) [ι 0,ι 0,ι 0]).toArray)):=κ (ah.trans (qg.setRow W1 g _));rw[<-I] at ae;have ap:=κ ae;have aq:=κ af;have az:1<=cap:=by omega
 have aE:n+1<=cap:=U;have aA:(cap:Int)<=9223372036854775807:=by unfold maxLen at ab;omega
 generalize W1.setRow g (xP (hdC T++cur.toList.drop (n* 3)) (n* 3) [ι 0,ι 0,ι 0]).toArray=W2 at *;clear ae af ak ag Y ac ai d J ad ah N I ab aj av am aw U;have mixed:prog.follows Departure.mixedOrders=true:=by kernel_rfl
 have aD:(1:Int)<=(n:Int)+1:=by omega
 go_enter func235,ntmps235
 go_wp2_with fail
 go_region_law_o (refine Jw rfl (.tmp 22) (.tmp 25) 230 230 rfl _ _ (by simp[Act.eval,Act.put]) (by simp[Act.eval,Act.put]) (ap.o _) ?_)
 have af:=aq.o;have aB: ¬cap=n:=by omega
 go_wp2;go_ret;exact⟨_,rfl,ao.o,an.o.mono λk au=>by subst au;rfl,rfl⟩
section
open Go.RowKit Go.Lib
theorem gV (A B d:List Value):xP (A++B) A.length d=A++(d++B.drop d.length):=by
 unfold xP;rw[List.take_left,List.append_assoc]
 congr 2
 rw[<-List.drop_drop,List.drop_left]
theorem Fh {A Z D X V:List Value} (G:Z.length=V.length):xP (xP (A++(Z++D)) (A.length+Z.length) X) A.length V=A++(V++(X++D.drop X.length)):=by
 have d:xP (A++(Z++D)) (A.length+Z.length) X=A++(Z++(X++D.drop X.length)):=by
  have:=gV (A++Z) D X;rw[List.length_append] at this
  simpa only[List.append_assoc] using this
 rw[d,gV,<-G,List.drop_left]
theorem BT {A Z D X V:List Value} (d:Z.length=V.length):xP (xP (A++(Z++D)) A.length V) (A.length+V.length) X=A++(V++(X++D.drop X.length)):=by
 rw[gV,<-d,List.drop_left];have:=gV (A++V) D X;rw[List.length_append] at this;rw[d]
 simpa only[List.append_assoc] using this
section
variable {P:Program}
theorem uJ {ops:Array Oper} {o:Oper} {a:Act} {w:World} {K:Act->World->Prop} {Q:Exit->Act->World->Prop} {E:Prop}
  (N:o.guard=none) (d x:Operand) (G H:TypeId) (O:o.op=Op.call {callee:=Callee.builtin Builtin.copy,args:= #[d,x],argTypes:= #[G,H]})
  (v u:Value) (J:a.eval d=v) (aa:a.eval x=u) {v':Value} {w':World} (U:(Builtin.copy_ #[G,H] o.type #[v,u]).run P w= .ok v' w') (I:K (a.put o.dst v') w'):
  if Region.wanted o (yielded ops a.tmps)=true then Oper.wp P o a w K Q else E:=by
 have Y:Region.wanted o (yielded ops a.tmps)=true:=by simp[Region.wanted,N]
 rw[if_pos Y];unfold Oper.wp;simp[execOp,O,resolve,invoke,builtin,J,aa,U,Result.andThen];exact I
end
theorem gL (h:Hd):(hd1 h).length=3:=rfl
structure Vn (L:List Hd) (h:Hd) (v:Value) (base:Nat) (w:World) (vb:Nat):Prop where
 row:zY w base v L
 base:base<=w.heap.size
 len:L.length<=1000
 one:w.heap[vb]? =some (.cells #[.int .i64 h.1,.int .i64 h.2.1,.int .i64 h.2.2] 338 (0,0))
 ne:v.ownBlock≠some vb
def JZ (L:List Hd) (i:Nat) (h:Hd) (v:Value) (base:Nat) (w:World) (e:Ending) (w':World):Prop:=
 ∃v',e= .returned v'/\zY w' base v' (L.take i++h::L.drop i)/\qg (λk=>v.ownBlock=some k) w w'/\(v'.ownBlock=v.ownBlock∨v'.ownBlock=some w.heap.size)
theorem QG {w:World} {h:Hd} {vb:Nat} (d:w.heap[vb]? =some (.cells #[ι h.1,ι h.2.1,ι h.2.2] 338 (0,0))): ∀j u,(hd1 h)[j]? =some u->w.cell? ((⟨vb,0,none⟩:Addr).add j)=some u:=by
 intro j u G;rw[Addr.add_lit,Nat.zero_add,cell_of_row w vb j _ _ (0,0) d]
 simpa [hd1] using G
theorem YQ (h:Hd): ∀u∈hd1 h,u.oneCell'=true:=by
 intro u d;simp[hd1] at d;rcases d with rfl | rfl | rfl<;>rfl
theorem Wv (L:List Hd) (h:Hd) (v:Value) (base:Nat) (w:World) (vb:Nat) (ok:Vn L h v base w vb):
  Calls prog 249 #[v,ι L.length,δ (some ⟨vb,0,none⟩) 1 1] w (JZ L L.length h v base w):=by
 obtain⟨row,aj,aw,H,ac⟩:=ok;obtain⟨aq,G,O,U,Y⟩:=info_parts (P:=prog) (e:=338) (z:= θ #[ι 0,ι 0,ι 0]) (size:=3) (bytes:=24) ξ;obtain⟨v',w',N,J,d,_,I⟩: ∃v' w',(∀ad,(Builtin.append_ #[230,230] ad #[v,δ (some ⟨vb,0,none⟩) 1 1]).run prog w= .ok v' w')/\w'.ownsRow base 338 3 v' (L.length+1) (hdC L++hd1 h)/\w.grownBy w' v.ownBlock/\True/\(v'.ownBlock=v.ownBlock∨v'.ownBlock=some w.heap.size):=by
  obtain⟨v',w',af,ag,ah,_,ai⟩:=run_append_own_at (P:=prog) (w:=w) base 230 0 338 aq (θ #[ι 0,ι 0,ι 0]) 3 24 underlying230 G O U Y rfl ζ v L.length (hdC L) row ⟨vb,0,none⟩ 1 1 (hd1 h) rfl (QG H) (YQ h) (by unfold maxLen;omega) τ aj;exact⟨v',w',λad=>af,ag,ah,trivial,ai⟩
 have aa:Hid (JZ L L.length h v base w (.returned v') w'):=κ ⟨v',rfl,by
  unfold zY;rw[List.take_length,List.drop_length,uS,List.length_append]
  exact J,⟨d.os,d.tape,d.output,d.size,λk am ao=>d.block k am (λe=>ao e.symm)⟩,I⟩
 have ab:=κ N;rcases row with ⟨_,⟨rfl,ae⟩ | ⟨g,cap,cur,rfl,ar,al,an,au,ak,ap⟩⟩
 ·rw[ae] at *;clear N J d I H G O U Y ac
  go_enter func249,ntmps249
  go_wp2_with (at_builtin;refine Lib.wpList_append_run _ rfl _ _ _ _ rfl _ _ rfl rfl _ _ (ab.o _) ?_)
  go_ret;exact aa.o
 ·have av:L.length<=cap:=an;clear N J d I H G O U Y ac al ak ap
  go_enter func249,ntmps249
  go_wp2_with (at_builtin;refine Lib.wpList_append_run _ rfl _ _ _ _ rfl _ _ rfl rfl _ _ (ab.o _) ?_)
  all_goals (go_ret;exact aa.o)
end
section
open Go.RowKit Go.Lib
theorem Uz {C:List Value} {L:List Hd} {i:Nat} (hi:i<L.length) (H:C.take (L.length* 3)=hdC L) (I:L.length* 3<=C.length):
  ∃Z R,C=hdC (L.take i)++(Z++R)/\Z.length=3/\(hdC (L.take i)).length=i* 3:=by
 have d:(hdC (L.take i)).length=i* 3:=by rw[yw,List.length_take];congr 1;omega
 have e:C.take (i* 3)=hdC (L.take i):=by
  have G:C.take (i* 3)=(C.take (L.length* 3)).take (i* 3):=by
   rw[List.take_take];congr 1;have:i* 3<=L.length* 3:=Nat.mul_le_mul_right 3 τ;omega
  rw[G,H]
  conv=>lhs;rw[<-List.take_append_drop i L,uS]
  rw[<-d,List.take_left]
 refine⟨(C.drop (i* 3)).take 3,(C.drop (i* 3)).drop 3, ?_, ?_,d⟩
 ·rw[List.take_append_drop,<-e,List.take_append_drop]
 ·have:i* 3+3<=L.length* 3:=by
   have:=Nat.mul_le_mul_right 3 (show i+1<=L.length from hi);omega
  rw[List.length_take,List.length_drop];omega
theorem VV {L:List Hd} {i:Nat} {h:Hd} {D:List Value} (hi:i<L.length):
  (hdC (L.take i)++(hd1 h++(hdC (L.drop i)++D))).take ((L.length+1)* 3)=hdC (L.take i++h::L.drop i):=by
 have e:hdC (L.take i++h::L.drop i)=hdC (L.take i)++(hd1 h++hdC (L.drop i)):=by rw[uS,gX]
 have d:(hdC (L.take i++h::L.drop i)).length=(L.length+1)* 3:=by
  rw[yw,List.length_append,List.length_cons,List.length_take,List.length_drop];congr 1;omega
 rw[<-d];have:hdC (L.take i)++(hd1 h++(hdC (L.drop i)++D))=hdC (L.take i++h::L.drop i)++D:=by rw[e];simp only[List.append_assoc]
 rw[this,List.take_left]
theorem Y3 (w:World) (g vb cap o k lb G:Nat) (cur H:Array Value) (J:w.heap[g]? =some (.cells cur 338 (0,0))) (I:cur.size≠0) (d:w.heap[vb]? =some (.cells H 338 (0,0))) (N:vb≠g):
  (callFunc 283 #[δ (some ⟨vb,0,none⟩) 1 1,δ (some ⟨g,o,none⟩) lb G]).run prog w= .ok (.value (μ false)) w:=by
 rw[run_callFunc_extern func283 ξ ξ ξ (e:=Extern.SlicesOverlaps.overlaps #[230,230] #[4]) ξ,
  Lib.run_overlaps_apart w 230 4 338 underlying230 3 (λw=>by kernel_rfl) ⟨vb,0,none⟩ ⟨g,o,none⟩ 1 1 lb G N 338 338 H.size cur.size (by simp[World.shape?,d]) (by simp[World.shape?,J]) I (qd d 0) (qd d _)]
 rfl
theorem Vj (L:List Hd) (i:Nat) (hi:i<L.length) (h:Hd) (base:Nat) (w:World) (vb g cap:Nat) (ok:Vn L h (δ (some ⟨g,0,none⟩) L.length cap) base w vb) (av:L.length+1<=cap):
  Calls prog 249 #[δ (some ⟨g,0,none⟩) L.length cap,ι i,δ (some ⟨vb,0,none⟩) 1 1] w (JZ L i h (δ (some ⟨g,0,none⟩) L.length cap) base w):=by
 obtain⟨row,aL,ay,ag,aq⟩:=ok;obtain⟨aG,⟨aC,_⟩ | ⟨g',aJ,cur,e,aE,I,ap,ac,an,aj⟩⟩:=row
 ·cases aC
 cases e;have ar:vb≠g:=λe=>aq (by rw[e];rfl)
 obtain⟨ax,ae,aH,ak,aI⟩:=info_parts (P:=prog) (e:=338) (z:= θ #[ι 0,ι 0,ι 0]) (size:=3) (bytes:=24) ξ;have ab:cur.toList.length=cap* 3:=by simpa using an
 obtain⟨Z,R,am,Y,U⟩:=Uz hi aj τ;have H:(hdC (L.drop i)).length=(L.length-i)* 3:=by rw[yw,List.length_drop]
 obtain⟨n,af⟩:=ν (L.length);have aD:=λ(o lb aB:Nat)=>Y3 w g vb cap o 0 lb aB cur _ I τ ag ar
 have ah: ∀G d sc,(Builtin.copy_ #[230,230] G #[δ (some ⟨g,(i+1)* 3,none⟩) (n-i) d,δ (some ⟨g,i* 3,none⟩) (n+1-i) sc]).run prog w.drew= .ok (ι ((n-i:Nat):Int)) (w.drew.setRow g (xP cur.toList ((i+1)* 3) (hdC (L.drop i))).toArray):=by
  intro G d sc;have J:Nat.min (n+1-i) (n-i)=n-i:=by simp only[Nat.min_def];split<;>omega
  have:=yN (P:=prog) w.drew 230 G 338 ax underlying230 ae g ((i+1)* 3) (n-i) d cur I ⟨g,i* 3,none⟩ (n+1-i) sc (hdC (L.drop i)) (by rw[J,ak,H,af]) (by
   intro j u aw;rw[Addr.add_lit];show w.cell? ⟨g,i* 3+j,none⟩=some u;rw[cell_of_row w g _ cur _ (0,0) I];have aN:j<(L.length-i)* 3:=by rw[<-H];exact(List.getElem?_eq_some_iff.1 aw).1
   have e:(hdC L)[i* 3+j]? =some u:=by
    conv=>lhs;rw[<-List.take_append_drop i L,uS]
    rw[List.getElem?_append_right τ,U,Nat.add_sub_cancel_left];exact aw
   rw[<-aj,List.getElem?_take,if_pos τ] at e
   simpa using e) (by rw[H];omega) (YP _)
  rw[J] at this;rw[this];rfl
 obtain⟨W1,N⟩: ∃W1,W1=w.drew.setRow g (xP cur.toList ((i+1)* 3) (hdC (L.drop i))).toArray:=⟨_,rfl⟩;have ad:W1.heap[g]? =some (.cells (xP cur.toList ((i+1)* 3) (hdC (L.drop i))).toArray 338 (0,0)):=by rw[N];exact jK (w:=w.drew) I _
 have aa:qg (λk=>k=g) w W1:=by rw[N];exact(show qg (λk=>k=g) w w.drew from qg.of_more (qa.drewN w 1)).trans (qg.setRow w.drew g _)
 have O:(xP cur.toList ((i+1)* 3) (hdC (L.drop i))).length=cap* 3:=by rw[ux (by rw[H,ab];omega),ab]
 have au:=aa.blk ag ar;have ai: ∀G d,(Builtin.copy_ #[230,230] G #[δ (some ⟨g,i* 3,none⟩) (n+1-i) d,δ (some ⟨vb,0,none⟩) 1 1]).run prog W1= .ok (ι 1) (W1.setRow g (xP (xP cur.toList ((i+1)* 3) (hdC (L.drop i))) (i* 3) (hd1 h)).toArray):=by
  intro G d;have J:Nat.min 1 (n+1-i)=1:=by simp only[Nat.min_def];split<;>omega
  have:=yN (P:=prog) W1 230 G 338 ax underlying230 ae g (i* 3) (n+1-i) d _ ad ⟨vb,0,none⟩ 1 1 (hd1 h) (by rw[J,ak];rfl) (QG au) (by rw[List.size_toArray,O,gL];omega) (YQ h);rw[J] at this;rw[this];rfl
 have al:Hid (JZ L i h (δ (some ⟨g,0,none⟩) L.length cap) base w (.returned (δ (some ⟨g,0,none⟩) (n+1) cap)) (W1.setRow g (xP (xP cur.toList ((i+1)* 3) (hdC (L.drop i))) (i* 3) (hd1 h)).toArray)):=κ (by
  have ao:(L.take i++h::L.drop i).length=n+1:=by rw[List.length_append,List.length_cons,List.length_take,List.length_drop];omega
  refine⟨_,rfl,⟨by rw[yw],Or.inr ⟨g,cap,_,by rw[ao],aE,jK ad _,τ,ac, ?_, ?_⟩⟩,(aa.trans (qg.setRow W1 g _)).mono λk aF=>by subst aF;rfl,Or.inl rfl⟩
  ·rw[List.size_toArray,ux (by rw[O,gL];omega),O]
  ·have:=Fh (A:=hdC (L.take i)) (Z:=Z) (D:=R) (X:=hdC (L.drop i)) (V:=hd1 h) (by rw[Y];rfl);rw[Y,U,<-am,show i* 3+3=(i+1)* 3 by omega] at this;rw[ao,<-af];simp only[this]
   exact VV hi)
 rw[<-N] at ah;generalize W1.setRow g (xP (xP cur.toList ((i+1)* 3) (hdC (L.drop i))) (i* 3) (hd1 h)).toArray=W2 at *;rw[af] at av ay ap al ⊢;have az:=κ ah;have aA:=κ ai;have mixed:prog.follows Departure.mixedOrders=true:=by kernel_rfl
 have aP:IntKind.i64.wrap ((i:Int)+1)=(i:Int)+1:=by rw[IntKind.wrap_i64];omega
 have aK:(0:Int)<=(i:Int)+1:=by omega
 have aO:((i:Int)+1).toNat=i+1:=by omega
 have aQ:(i:Int)<=(n:Int):=by omega
 have aR: ¬(cap:Int)<(n:Int)+1:=by omega
 have aS:(n:Int)<=1000:=by omega
 have aT:(i:Int)+1<=(n:Int)+1:=by omega
 have aU: ¬cap=i:=by omega
 have aV: ¬cap=i+1:=by omega
 have aW:(i:Int)<=(n:Int)+1:=by omega
 have aM:(cap:Int)<=9223372036854775807:=by unfold maxLen at ac;omega
 clear ah ai ab H ad aa O au ag I an aj aG ae aH ak aI am Y U N aq av ap ay ac
 go_enter func249,ntmps249
 go_wp2_with (simp only[aD])
 go_region_law_o (refine uJ rfl (.tmp 73) (.tmp 76) 230 230 rfl _ _ (by simp[Act.eval,Act.put]) (by simp[Act.eval,Act.put]) (az.o _ (cap-(i+1)) (cap-i)) ?_)
 have ai:=aA.o;go_wp2;go_ret;exact al.o
end
section
open Go.RowKit Go.Lib
theorem KM (L:List Hd) (i:Nat) (hi:i<L.length) (h:Hd) (base:Nat) (w:World) (vb g cap:Nat) (ok:Vn L h (δ (some ⟨g,0,none⟩) L.length cap) base w vb) (bk:cap<L.length+1):
  Calls prog 249 #[δ (some ⟨g,0,none⟩) L.length cap,ι i,δ (some ⟨vb,0,none⟩) 1 1] w (JZ L i h (δ (some ⟨g,0,none⟩) L.length cap) base w):=by
 obtain⟨row,bj,bd,aL,bb⟩:=ok;obtain⟨bc,⟨aT,_⟩ | ⟨g',be,cur,e,bh,av,ba,aV,aW,aO⟩⟩:=row
 ·cases aT
 cases e;obtain⟨ak,ah,aP,ab,aD⟩:=info_parts (P:=prog) (e:=338) (z:= θ #[ι 0,ι 0,ι 0]) (size:=3) (bytes:=24) ξ;obtain⟨n,aB⟩:=ν (L.length);have Y:(hdC (L.take i)).length=i* 3:=by rw[yw,List.length_take];congr 1;omega
 have ag:(hdC (L.drop i)).length=(n-i)* 3:=by rw[yw,List.length_drop,aB]
 have au: ∀j u,(hdC L)[j]? =some u->w.cell? ⟨g,j,none⟩=some u:=by
  intro j u J;rw[cell_of_row w g _ cur _ (0,0) av];have aX:j<L.length* 3:=by rw[<-yw];exact(List.getElem?_eq_some_iff.1 J).1
  rw[<-aO,List.getElem?_take,if_pos aX] at J
  simpa using J
 have holds: ∀j u,(hdC (L.take i))[j]? =some u->w.cell? ((⟨g,0,none⟩:Addr).add j)=some u:=by
  intro j u J;rw[Addr.add_lit,Nat.zero_add];refine au j u ?_
  conv=>lhs;rw[<-List.take_append_drop i L,uS]
  rw[List.getElem?_append_left (List.getElem?_eq_some_iff.1 J).1];exact J
 have aN: ∀j u,(hdC (L.drop i))[j]? =some u->w.cell? ((⟨g,i* 3,none⟩:Addr).add j)=some u:=by
  intro j u J;rw[Addr.add_lit];refine au _ u ?_
  conv=>lhs;rw[<-List.take_append_drop i L,uS]
  rw[List.getElem?_append_right τ,Y,Nat.add_sub_cancel_left];exact J
 have aK:(Builtin.firstCells ak.size i (δ (some ⟨g,0,none⟩) i cap)).run prog w.drew= .ok (hdC (L.take i)).toArray w.drew:=by
  rw[ab];exact run_firstCells_some (w:=w.drew) 3 i ⟨g,0,none⟩ i cap (hdC (L.take i)) Y holds
 have ay:i+(n+1-i)=n+1:=by omega
 have aI:(n:Int)+1-(i:Int)=((n+1-i:Nat):Int):=by omega
 obtain⟨d,ac⟩: ∃d,d=grownCap w (n+1) cap 338:=⟨_,rfl⟩;obtain⟨H,aq⟩: ∃H:Array Value,H=(hdC (L.take i)).toArray++Builtin.zeroCells (θ #[ι 0,ι 0,ι 0]).cells (n+1-i)++Builtin.zeroCells (θ #[ι 0,ι 0,ι 0]).cells (d-(n+1)):=⟨_,rfl⟩;have aC: ∀I,(Builtin.append_ #[230,3] I #[δ (some ⟨g,0,none⟩) i cap,ι ((n:Int)+1-(i:Int))]).run prog w= .ok (δ (some ⟨w.heap.size,0,none⟩) (n+1) d) (w.drew.alloc (.cells H 338)):=λI=>by
  have h:=Lib.run_append_grow_zeros (P:=prog) w 230 3 I 338 ak _ .i64 .i64 underlying230 underlying3 ah aP (some ⟨g,0,none⟩) i cap (hdC (L.take i)) aK (n+1-i) τ (by rw[ab];decide) τ τ (by rw[aD];omega) (by rw[aD,ay];exact growslice_fits τ τ);rw[ay,<-ac,<-aq] at h;rw[aI];exact h
 have bg:n+1<=d:=by rw[ac];exact grownCap_ge w _ _ _
 have am:d<=maxLen:=by rw[ac];exact grownCap_le_maxLen w (n+1) cap 338 (by unfold maxLen;omega)
 obtain⟨U,ar⟩:=ν ((Builtin.zeroCells (θ #[ι 0,ι 0,ι 0]).cells (n+1-i)).toList);have aG:U.length=(n+1-i)* 3:=by rw[<-ar,Array.length_toList,size_zeroCells];rfl
 obtain⟨O,ao⟩:=ν ((Builtin.zeroCells (θ #[ι 0,ι 0,ι 0]).cells (d-(n+1))).toList);have aF:O.length=(d-(n+1))* 3:=by rw[<-ao,Array.length_toList,size_zeroCells];rfl
 have ap:H.toList=hdC (L.take i)++(U++O):=by
  rw[aq,Array.toList_append,Array.toList_append,ar,ao,List.append_assoc]
 obtain⟨Z,D,aH,aU⟩: ∃Z D,U++O=Z++D/\Z.length=3:=⟨(U++O).take 3,(U++O).drop 3,(List.take_append_drop 3 _).symm,by rw[List.length_take,List.length_append];omega⟩;have ad:H.toList.length=d* 3:=by rw[ap,List.length_append,List.length_append,Y,aG,aF];omega
 obtain⟨G,an⟩:=ν (w.heap.size);obtain⟨W1,ae⟩: ∃W1,W1=w.drew.alloc (.cells H 338):=⟨_,rfl⟩;have aw:W1.heap[G]? =some (.cells H 338 (0,0)):=by rw[ae];exact qB (w:=w.drew) an.symm
 have az:qa w W1:=by rw[ae];exact(qa.drewN w 1).al _
 have aj: ∀I N,(Builtin.copy_ #[230,230] I #[δ (some ⟨G,i* 3,none⟩) (n+1-i) N,δ (some ⟨vb,0,none⟩) 1 1]).run prog W1= .ok (ι 1) (W1.setRow G (xP H.toList (i* 3) (hd1 h)).toArray):=by
  intro I N;have aa:Nat.min 1 (n+1-i)=1:=by simp only[Nat.min_def];split<;>omega
  have:=yN (P:=prog) W1 230 I 338 ak underlying230 ah G (i* 3) (n+1-i) N H aw ⟨vb,0,none⟩ 1 1 (hd1 h) (by rw[aa,ab];rfl) (QG (qc az aL)) (by rw[gL,<-Array.length_toList,ad];omega) (YQ h);rw[aa] at this;rw[this];rfl
 obtain⟨W2,af⟩: ∃W2,W2=W1.setRow G (xP H.toList (i* 3) (hd1 h)).toArray:=⟨_,rfl⟩;have ax:W2.heap[G]? =some (.cells (xP H.toList (i* 3) (hd1 h)).toArray 338 (0,0)):=by rw[af];exact jK aw _
 have aA:qa w W2:=by rw[af];exact(qg.setRow W1 G _).to_more az (λk aY=>by omega)
 have ai:(xP H.toList (i* 3) (hd1 h)).length=d* 3:=by rw[ux (by rw[gL,ad];omega),ad]
 have aM: ∀I N sc,(Builtin.copy_ #[230,230] I #[δ (some ⟨G,(i+1)* 3,none⟩) (n-i) N,δ (some ⟨g,i* 3,none⟩) (n-i) sc]).run prog W2.drew= .ok (ι ((n-i:Nat):Int)) (W2.drew.setRow G (xP (xP H.toList (i* 3) (hd1 h)) ((i+1)* 3) (hdC (L.drop i))).toArray):=by
  intro I N sc;have aa:Nat.min (n-i) (n-i)=n-i:=Nat.min_self _
  have:=yN (P:=prog) W2.drew 230 I 338 ak underlying230 ah G ((i+1)* 3) (n-i) N _ ax ⟨g,i* 3,none⟩ (n-i) sc (hdC (L.drop i)) (by rw[aa,ab,ag]) (by
   intro j u J;have:=aN j u J;rw[Addr.add_lit] at this ⊢;show W2.cell? _=_;rw[aA.cells g _ (lt_of_block av)]
   exact this) (by rw[List.size_toArray,ai,ag];omega) (YP _)
  rw[aa] at this;rw[this];rfl
 have aE:Hid (JZ L i h (δ (some ⟨g,0,none⟩) L.length cap) base w (.returned (δ (some ⟨G,0,none⟩) (n+1) d)) (W2.drew.setRow G (xP (xP H.toList (i* 3) (hd1 h)) ((i+1)* 3) (hdC (L.drop i))).toArray)):=κ (by
  have aJ:(L.take i++h::L.drop i).length=n+1:=by rw[List.length_append,List.length_cons,List.length_take,List.length_drop];omega
  have aZ:qa w (W2.drew.setRow G (xP (xP H.toList (i* 3) (hd1 h)) ((i+1)* 3) (hdC (L.drop i))).toArray):=(qg.setRow W2.drew G _).to_more (aA.trans (qa.drewN W2 1)) (λk aY=>by omega);refine⟨_,rfl,⟨by rw[yw],Or.inr ⟨G,d,_,by rw[aJ],τ,jK (w:=W2.drew) ax _,τ,am, ?_, ?_⟩⟩,qg.of_more aZ,Or.inr (by rw[an];rfl)⟩
  ·rw[List.size_toArray,ux (by rw[ai,ag];omega),ai]
  ·have:=BT (A:=hdC (L.take i)) (Z:=Z) (D:=D) (X:=hdC (L.drop i)) (V:=hd1 h) (by rw[aU];rfl);rw[gL,Y,<-aH,<-ap,show i* 3+3=(i+1)* 3 by omega] at this;rw[aJ,<-aB];simp only[this]
   exact VV hi)
 rw[an,<-ae] at aC;rw[<-af] at aj;generalize W2.drew.setRow G (xP (xP H.toList (i* 3) (hd1 h)) ((i+1)* 3) (hdC (L.drop i))).toArray=W3 at *;rw[aB] at aE ⊢;have aS:=κ aC;have aQ:=κ aj;have aR:=κ aM;have mixed:prog.follows Departure.mixedOrders=true:=by kernel_rfl
 have bm:IntKind.i64.wrap ((i:Int)+1)=(i:Int)+1:=by rw[IntKind.wrap_i64];omega
 have bi:(0:Int)<=(i:Int)+1:=by omega
 have bl:((i:Int)+1).toNat=i+1:=by omega
 have bo:(i:Int)<=(n:Int):=by omega
 have bp:(cap:Int)<(n:Int)+1:=by omega
 have bq:(n:Int)<=1000:=by omega
 have br:(i:Int)+1<=(n:Int)+1:=by omega
 have bs: ¬cap=i:=by omega
 have bt: ¬d=i:=by omega
 have bu: ¬d=i+1:=by omega
 have bv:(i:Int)<=(n:Int)+1:=by omega
 have bn:(i:Int)<=(cap:Int):=by omega
 have bf:(d:Int)<=9223372036854775807:=by unfold maxLen at am;omega
 clear aC aj aM ag aw ax az aA ai aL av aW aO bc ah aP ab aD aH Y ae af bb ba bd aV au holds aN aK ac aq ap ad ar ao aG aF aI ay am
 go_enter func249,ntmps249
 go_wp2_with (at_builtin;refine Lib.wpList_append_run _ rfl _ _ _ _ rfl _ _ rfl rfl _ _ (aS.o _) ?_;have aj:=aQ.o)
 go_region_law_o (refine uJ rfl (.tmp 50) (.tmp 53) 230 230 rfl _ _ (by simp[Act.eval,Act.put]) (by simp[Act.eval,Act.put]) (aR.o _ (d-(i+1)) (cap-i)) ?_)
 go_wp2;go_ret;exact aE.o
end
section
open Go.RowKit Go.Lib
theorem Ww (L:List Hd) (i:Nat) (hi:i<=L.length) (h:Hd) (v:Value) (base:Nat) (w:World) (vb:Nat) (d:Vn L h v base w vb):
  Calls prog 249 #[v,ι i,δ (some ⟨vb,0,none⟩) 1 1] w (JZ L i h v base w):=by
 by_cases e:i=L.length
 ·subst e;exact Wv L h v base w vb d
 ·rcases d.row.2 with ⟨_,G⟩ | ⟨g,cap,_,rfl,_⟩
  ·omega
  ·by_cases hc:L.length+1<=cap
   ·exact Vj L i τ h base w vb g cap d hc
   ·exact KM L i τ h base w vb g cap d τ
structure Jb where
 room:Int
 wait:Int
 holds:List Hd
 begun:Bool
 hi:Int
 bits:Int
def yh (b:Jb) (v:Value):Array Value:= #[.int .i64 b.room,.int .i64 b.wait,v,.bool b.begun,.int .i64 b.hi,.int .u64 b.bits]
structure xX (w:World) (R:Nat) (v:Value) (b:Jb):Prop where
 blk:w.heap[R]? =some (.cells (yh b v) 235 (0,0))
 row:zY w (R+1) v b.holds
theorem xX.on {w w':World} {R:Nat} {v:Value} {b:Jb} (h:xX w R v b) (m:qa w w'):xX w' R v b:=⟨qc m h.blk,h.row.more m⟩
theorem xX.cells {w:World} {R:Nat} {v:Value} {b:Jb} (h:xX w R v b): ∀x:qp w,x.w'.cell? ⟨R,0,none⟩=some (ι b.room)/\x.w'.cell? ⟨R,1,none⟩=some (ι b.wait)/\x.w'.cell? ⟨R,2,none⟩=some v/\x.w'.cell? ⟨R,3,none⟩=some (μ b.begun)/\x.w'.cell? ⟨R,4,none⟩=some (ι b.hi)/\x.w'.cell? ⟨R,5,none⟩=some (ψ b.bits):=λx=>
 have k:=qc x.h h.blk
 ⟨qb k 0 rfl,qb k 1 rfl,qb k 2 rfl,qb k 3 rfl,qb k 4 rfl,qb k 5 rfl⟩
abbrev xz (n:Int):Prop:=0<=n/\n<=1152921504606846976
structure JOK (b:Jb):Prop where
 room:1<=b.room/\b.room<=8
 wait:0<=b.wait/\b.wait<=1000
 fits:(b.holds.length:Int)<=b.room
 nums: ∀h∈b.holds,xz h.1/\xz h.2.1
 rise:b.holds.Pairwise λa c=>a.1<c.1
 hi:xz b.hi
 bits:U64 b.bits
 over:b.begun=true-> ∀h∈b.holds,b.hi<h.1
theorem DF (n:Int) (B:Nat) (x:Hd) (w:World) (d:w.heap[B]? =some (.cells #[ι n] 2 (0,0))):
  Calls prog 246 #[θ #[ι x.1,ι x.2.1,ι x.2.2],γ B] w λe w'=>e= .returned (μ (x.1==n))/\qa w w':=by
 obtain⟨G,H,I⟩:=x;have J:(w.alloc (.cells #[ι G,ι H,ι I] 338)).cell? ⟨B,0,none⟩=some (ι n):=qb (qq d _) 0 rfl;clear d
 go_enter func246,ntmps246
 go_wp2;go_ret;exact⟨rfl,qa.alloc _ _⟩
theorem WB (n:Int) (B:Nat) (x:Hd) (w:World) (d:w.heap[B]? =some (.cells #[ι n] 2 (0,0))):
  Calls prog 247 #[θ #[ι x.1,ι x.2.1,ι x.2.2],γ B] w λe w'=>e= .returned (μ (decide (n<x.1)))/\qa w w':=by
 obtain⟨G,H,I⟩:=x;have J:(w.alloc (.cells #[ι G,ι H,ι I] 338)).cell? ⟨B,0,none⟩=some (ι n):=qb (qq d _) 0 rfl;clear d
 go_enter func247,ntmps247
 go_wp2;go_ret;exact⟨rfl,qa.alloc _ _⟩
theorem Hp (b:Jb) (R:Nat) (v:Value) (w:World) (h:xX w R v b):
  Calls prog 65 #[γ R] w λe w'=>e= .returned (ι b.holds.length)/\w=w':=by
 obtain⟨d,c1,c2,c3,c4,c5⟩:=h.cells ⟨w,qa.refl _⟩;obtain⟨H,cap,rfl,G⟩:=h.row.shape;clear h
 go_enter func65,ntmps65
 go_wp2;go_ret;exact⟨rfl,rfl⟩
theorem uC (b:Jb) (R:Nat) (v:Value) (w:World) (h:xX w R v b) (d:xz b.hi):
  Calls prog 172 #[γ R] w λe w'=>e= .returned (.tuple #[ι (if b.begun then b.hi+1 else 0),b.begun])/\w=w':=by
 obtain⟨G,c1,c2,c3,c4,c5⟩:=h.cells ⟨w,qa.refl _⟩;obtain⟨H,I⟩:=d;clear h;cases hb:b.begun with
 | true=>
  rw[hb] at c3
  go_enter func172,ntmps172
  go_wp2
  go_ret2
  exact⟨rfl,rfl⟩
 | false=>
  rw[hb] at c3
  go_enter func172,ntmps172
  go_wp2
  go_ret2
  exact⟨rfl,rfl⟩
end
section
open Go.RowKit Go.Lib
def xI (b:Jb) (now:Int) (h:Hd):Bool:=decide (b.wait<=now-h.2.1)
def jN (b:Jb) (now:Int):Bool:=match b.holds with
 | []=>false
 | h::_=> !b.begun||h.1==b.hi+1||decide (b.room<=b.holds.length)||b.holds.any (xI b now)
theorem Wl (b:Jb) (R:Nat) (v:Value) (H:Int) (af:xz H) (U O:Nat) (x:Hd) (ah:xz x.2.1) (w:World) (h:xX w R v b)
  (aa:w.heap[U]? =some (.cells #[ι H] 2 (0,0))) (Y:w.heap[O]? =some (.cells #[γ R] 131 (0,0))):
  Calls prog 171 #[θ #[ι x.1,ι x.2.1,ι x.2.2],γ U,γ O] w λe w'=>e= .returned (μ (xI b H x))/\qa w w':=by
 obtain⟨I,J,N⟩:=x;obtain⟨ad,ae⟩:=ah;obtain⟨ak,al⟩:=af;simp only at ad ae;have d:=qa.alloc w (.cells #[ι I,ι J,ι N] 338);obtain⟨W,G⟩: ∃W,W=w.alloc (.cells #[ι I,ι J,ι N] 338):=⟨_,rfl⟩;have ab:W.heap[w.heap.size]? =some (.cells #[ι I,ι J,ι N] 338 (0,0)):=by rw[G];exact qk w _
 rw[<-G] at d;have c1: ∀x:qp W,x.w'.cell? ⟨R,1,none⟩=some (ι b.wait):=λx=>((h.on d).cells x).2.1
 have c3:=λ(x:qp W)=>β0 (qc (d.trans x.h) aa)
 have c2:=λ(x:qp W)=>β0 (qc (d.trans x.h) Y)
 have aj:=λ(x:qp W)=>β1 (qc x.h ab)
 have ac:=κ d;clear h aa Y ab d
 go_enter func171,ntmps171
 go_wp2_with fail
 rw[<-G];clear G;generalize w.heap.size=BX at *;refine qz W (qa.refl _) ξ ξ ?_
 repeat (go_big_quiet_step (fail))
 refine wpQuiet_nil ?_;intro _ ag;obtain⟨ai,rfl⟩:=ag;go_wp2;go_ret;exact⟨rfl,ac.o.trans ai.h⟩
theorem Yg (b:Jb) (ok:JOK b) (R:Nat) (v:Value) (d:Int) (aD:xz d) (w:World) (h:xX w R v b):
  Calls prog 119 #[γ R,ι d] w λe w'=>e= .returned (μ (jN b d))/\qa w w':=by
 obtain⟨W,G⟩: ∃W,W=(w.alloc (.cells #[γ R] 131)).alloc (.cells #[ι d] 2):=⟨_,rfl⟩;have ak:qa w W:=by rw[G];exact(qa.alloc w _).al _
 have ah:W.heap[w.heap.size]? =some (.cells #[γ R] 131 (0,0)):=by rw[G];exact qq (qk w _) _
 have ao:W.heap[w.heap.size+1]? =some (.cells #[ι d] 2 (0,0)):=by rw[G];exact qB η
 have I:=κ (h.on ak);have aH: ∀x:qp W,x.w'.cell? ⟨R,0,none⟩=some (ι b.room):=λx=>(I.o.cells x).1
 have c2: ∀x:qp W,x.w'.cell? ⟨R,2,none⟩=some v:=λx=>(I.o.cells x).2.2.1
 have ap:W.cell? ⟨R,2,none⟩=some v:=(I.o.cells ⟨W,qa.refl _⟩).2.2.1;have ay:=λ(x:qp W)=>β0 (qc x.h ah)
 have aJ:w.heap.size≠R:=λe=>by have:=lt_of_block h.blk;omega
 have ad:=κ ak;have O:=κ I.o.row;have am:Hid (ZG 171 #[γ (w.heap.size+1),γ w.heap.size] (xI b d) b.holds W):=κ λW' x aq m=>
  Wl b R v d aD _ _ x (ok.nums x aq).2 W' (I.o.on m) (qc m ao) (qc m ah)
 obtain⟨av,cap,rfl,aB⟩:=I.o.row.shape;obtain⟨aN,aO⟩:=ok.room;have az:=ok.fits;obtain⟨ai,aj⟩:=ok.hi;clear h;have H:Hid (xX ((w.alloc (.cells #[γ R] 131)).alloc (.cells #[ι d] 2)) R (δ av b.holds.length cap) b):=κ (G▸I.o);have ab:((w.alloc (.cells #[γ R] 131)).alloc (.cells #[ι d] 2)).cell? ⟨R,2,none⟩=some (δ av b.holds.length cap):=G▸ap;cases hbh:b.holds with
 | nil=>
  have ae:jN b d=false:=by unfold jN;rw[hbh]
  have J:=κ ae;have aw:Hid (qa w ((w.alloc (.cells #[γ R] 131)).alloc (.cells #[ι d] 2))):=κ (G▸ad.o);rw[hbh,List.length_nil] at ab;clear ae am O ah ao ak c2 ap ay G
  go_enter func119,ntmps119
  go_wp2;go_ret;exact⟨by rw[J.o];rfl,aw.o⟩
 | cons k T=>
  have aC:b.holds.length=T.length+1:=by rw[hbh];rfl
  obtain⟨g,aI,e,aA,aM,au⟩:=O.o.cell 0 τ;cases e;have aK: ∀x:qp W,x.w'.cell? ⟨g,0,none⟩=some (ι k.1):=λx=>by
   have:=(au _ x.h).1;rw[Nat.zero_mul,hbh] at this;exact this
  have ae:jN b d=(!b.begun||k.1==b.hi+1||decide (b.room<=b.holds.length)||b.holds.any (xI b d)):=by unfold jN;rw[hbh]
  have J:=κ ae;have aE: ¬(b.holds.length:Int)=0:=by omega
  have aF:(0:Int)<(b.holds.length:Int):=by omega
  clear ae au ah ao ak ap hbh aC aA;obtain⟨an,ar⟩:=ν (b.holds.length);rw[ar] at c2 ab J aE aF aB az H O;clear ar;generalize k.1=K1 at *;have ag:Hid (∀W',qa W W'->ZG 171 #[γ (w.heap.size+1),γ w.heap.size] (xI b d) b.holds W'):=κ λW' m ax x aq aG=>am.o ax x aq (m.trans aG)
  have af: ∀args w,(callFunc 171 args).run prog w= .ok (.enter 171 args) w:=λargs w=>by kernel_rfl
  clear am;cases hbg:b.begun with
  | false=>
   have ac:=κ hbg;have N:Hid (jN b d=true):=κ (by rw[J.o,hbg];rfl);clear hbg J
   go_enter func119,ntmps119
   go_wp2_with (go_at_call 172;(go_call uC b R _ _ H.o ⟨ai,aj⟩ as e w1 ⟨rfl,rfl⟩;rw[ac.o]))
   rw[<-G];clear G H ab;generalize w.heap.size=B2 at *;refine qz W (qa.refl _) ξ ξ ?_
   repeat (go_big_quiet_step ((go_at_call 173;with_reducible exact jY (xr _ _ (xI b d) af b.holds _ (R+1) _ (O.o.more (qp.h _)) (ag.o _ (qp.h _))))))
   refine wpQuiet_nil ?_;intro _ U;obtain⟨Y,rfl⟩:=U;go_wp2;go_ret;exact⟨by rw[N.o];rfl,ad.o.trans Y.h⟩
  | true=>
   have ac:=κ hbg;have aa:Hid (jN b d=(K1==b.hi+1||decide (b.room<=(an:Int))||b.holds.any (xI b d))):=κ (by rw[J.o,hbg];rfl);clear hbg J;cases hk:(K1==b.hi+1) with
   | true=>
    have N:Hid (jN b d=true):=κ (by rw[aa.o,hk];rfl);clear aa
    go_enter func119,ntmps119
    go_wp2_with (go_at_call 172;(go_call uC b R _ _ H.o ⟨ai,aj⟩ as e w1 ⟨rfl,rfl⟩;rw[ac.o]))
    rw[<-G];clear G H ab;generalize w.heap.size=B2 at *;refine qz W (qa.refl _) ξ ξ ?_
    repeat (go_big_quiet_step ((go_at_call 173;with_reducible exact jY (xr _ _ (xI b d) af b.holds _ (R+1) _ (O.o.more (qp.h _)) (ag.o _ (qp.h _))))))
    refine wpQuiet_nil ?_;intro _ U;obtain⟨Y,rfl⟩:=U;go_wp2;go_ret;exact⟨by rw[N.o];rfl,ad.o.trans Y.h⟩
   | false=>
    by_cases hf:b.room<=(an:Int)
    ·have N:Hid (jN b d=true):=κ (by rw[aa.o,hk,decide_eq_true hf];rfl);clear aa
     go_enter func119,ntmps119
     go_wp2_with (go_at_call 172;(go_call uC b R _ _ H.o ⟨ai,aj⟩ as e w1 ⟨rfl,rfl⟩;rw[ac.o]))
     rw[<-G];clear G H ab;generalize w.heap.size=B2 at *;refine qz W (qa.refl _) ξ ξ ?_
     repeat (go_big_quiet_step ((go_at_call 173;with_reducible exact jY (xr _ _ (xI b d) af b.holds _ (R+1) _ (O.o.more (qp.h _)) (ag.o _ (qp.h _))))))
     refine wpQuiet_nil ?_;intro _ U;obtain⟨Y,rfl⟩:=U;go_wp2;go_ret;exact⟨by rw[N.o];rfl,ad.o.trans Y.h⟩
    ·have N:Hid (jN b d=b.holds.any (xI b d)):=κ (by rw[aa.o,hk,decide_eq_false hf];rfl);have aL:decide (b.room<=(an:Int))=false:=decide_eq_false hf;clear aa hf
     go_enter func119,ntmps119
     go_wp2_with (go_at_call 172;(go_call uC b R _ _ H.o ⟨ai,aj⟩ as e w1 ⟨rfl,rfl⟩;rw[ac.o]))
     rw[<-G];clear G H ab;generalize w.heap.size=B2 at *;refine qz W (qa.refl _) ξ ξ ?_
     repeat (go_big_quiet_step ((go_at_call 173;with_reducible exact jY (xr _ _ (xI b d) af b.holds _ (R+1) _ (O.o.more (qp.h _)) (ag.o _ (qp.h _))))))
     refine wpQuiet_nil ?_;intro _ U;obtain⟨Y,rfl⟩:=U;go_wp2;go_ret;exact⟨by rw[N.o];rfl,ad.o.trans Y.h⟩
end
section
open Go.RowKit Go.Lib
def wM (b:Jb) (n:Int):Int×Int:=if b.begun then zt b.hi b.bits n else (n,1)
def jW (b:Jb):Jb:=match b.holds with
 | []=>b
 | h::T=>{b with holds:=T,begun:=true,hi:=(wM b h.1).1,bits:=(wM b h.1).2}
theorem uW {n:Int} (h:xz n):Mid n:=by obtain⟨d,G⟩:=h;unfold Mid;omega
structure km (w w':World) (R:Nat) (v v':Value) (b':Jb):Prop where
 buf:xX w' R v' b'
 away:qg (λk=>k=R∨v.ownBlock=some k) w w'
 own:v'.ownBlock=v.ownBlock∨ ∃g,v'.ownBlock=some g/\w.heap.size<=g
theorem zY.away {w w':World} {base:Nat} {v:Value} {L:List Hd} {S:Nat->Prop} (h:zY w base v L) (a:qg S w w') (H: ∀k,v.ownBlock=some k-> ¬S k):zY w' base v L:=by
 obtain⟨d,G⟩:=h;refine⟨d, ?_⟩;rcases G with h | ⟨g,cap,cur,e1,hb,hg,rest⟩
 ·exact Or.inl h
 ·exact Or.inr ⟨g,cap,cur,e1,hb,a.blk hg (H g (by rw[e1];rfl)),rest⟩
theorem qg.old {w a b:World} {S S':Nat->Prop} (m:qa w a) (h:qg S a b) (H: ∀k,S k->S' k∨w.heap.size<=k):qg S' w b:=
 ⟨h.os.trans m.os,h.tape.trans m.tape,h.output.trans m.output,Nat.le_trans m.size h.size,λk d G=>by
  rw[h.block k (Nat.lt_of_lt_of_le d m.size) (λx=>(H k x).elim G (λy=>by omega))]
  exact m.block k d⟩
theorem zY.own_ge {w:World} {base:Nat} {v:Value} {L:List Hd} (h:zY w base v L) {k:Nat} (d:v.ownBlock=some k):base<=k/\k<w.heap.size:=by
 rcases h.2 with ⟨rfl,_⟩ | ⟨g,cap,cur,rfl,G,H,_⟩
 ·cases d
 ·obtain rfl:g=k:=by injection d
  exact⟨G,lt_of_block H⟩
theorem Bs (w:World) (B:Nat) (v0 d G:Value):qg (λk=>k=B) w (((w.setCell ⟨B,0,none⟩ v0).setCell ⟨B,1,none⟩ d).setCell ⟨B,2,none⟩ G):=
 (((qg.refl (λk=>k=B) w).set (p:=⟨B,0,none⟩) rfl v0).set (p:=⟨B,1,none⟩) rfl d).set (p:=⟨B,2,none⟩) rfl G
theorem Z1 {w w5:World} {R G g I cap J:Nat} {U:Option Addr} {b:Jb} {T:List Hd} {H N O ac aa:Int} {X:Value} (ai:b.holds=(H,N,O)::T) (aq:wM b H=(ac,aa))
  (ak:w5.heap[R]? =some (.cells ((yh b X).setIfInBounds 2 (δ U I J)) 235 (0,0))) (al:w5.heap[G]? =some (.cells #[ι 0,ι 0,ι 0] 338 (0,0)))
  (am:zY w5 (R+1) (δ U I J) T) (ad:(δ U I J).ownBlock=some g) (aj:qg (λk=>k=R∨k=g) w w5) (ar:w.heap.size<=G) (au:R<w.heap.size) (av:g≠R) (aw:g<w.heap.size)
  {WF:World} (e:((((((w5.setCell ⟨R,4,none⟩ (ι ac)).setCell ⟨R,5,none⟩ (ψ aa)).setCell ⟨R,3,none⟩ (μ true)).setCell ⟨G,0,none⟩ (ι H)).setCell ⟨G,1,none⟩ (ι N)).setCell ⟨G,2,none⟩ (ι O))=WF):
  WF.cell? ⟨G,0,none⟩=some (ι H)/\WF.cell? ⟨G,1,none⟩=some (ι N)/\WF.cell? ⟨G,2,none⟩=some (ι O)/\km w WF R (δ (some ⟨g,0,none⟩) (I+1) cap) (δ U I J) (jW b):=by
 obtain⟨w6,af⟩:=ν (((w5.setCell ⟨R,4,none⟩ (ι ac)).setCell ⟨R,5,none⟩ (ψ aa)).setCell ⟨R,3,none⟩ (μ true));rw[af] at e;have ag:=qo (qo (qo ak 4 (ι ac)) 5 (ψ aa)) 3 (μ true);rw[af] at ag;have ae:qg (λk=>k=R) w5 w6:=by
  rw[<-af];exact(((qg.refl (λk=>k=R) w5).set (p:=⟨R,4,none⟩) rfl _).set (p:=⟨R,5,none⟩) rfl _).set (p:=⟨R,3,none⟩) rfl _
 have ah:R≠G:=by omega
 have ap:=ae.blk al (λx=>ah x.symm);have Y:=Bs w6 G (ι H) (ι N) (ι O);have ab:=qo (qo (qo ap 0 (ι H)) 1 (ι N)) 2 (ι O);rw[e] at Y ab;have ao:=Y.blk ag ah;refine⟨qb ab 0 rfl,qb ab 1 rfl,qb ab 2 rfl,⟨qA ao ?_, ?_⟩, ?_,Or.inl (by rw[ad];rfl)⟩
 ·simp only[jW,ai,aq];rfl
 ·have:zY WF (R+1) (δ U I J) T:=(am.away ae (λk d x=>by rw[ad] at d;injection d with d;omega)).away Y (λk d x=>by rw[ad] at d;injection d with d;omega);simp only[jW,ai];exact this
 ·have an:qg (λk=>k=R∨k=g∨k=G) w WF:=(aj.mono λk d=>d.elim Or.inl (λx=>Or.inr (Or.inl x))).trans ((ae.mono λk d=>Or.inl d).trans (Y.mono λk d=>Or.inr (Or.inr d)));refine qg.old (qa.refl w) an λk d=> ?_
  rcases d with d | d | d
  ·exact Or.inl (Or.inl d)
  ·exact Or.inl (Or.inr (by rw[d];rfl))
  ·exact Or.inr τ
theorem Yj (b:Jb) (h:Hd) (T:List Hd) (au:b.holds=h::T) (aM:JOK b) (R:Nat) (v:Value) (w:World) (an:xX w R v b):
  Calls prog 178 #[γ R] w λe w'=>e= .returned (θ #[ι h.1,ι h.2.1,ι h.2.2])/\ ∃v',km w w' R v v' (jW b):=by
 obtain⟨I,aa,ab⟩:=h;have bC:=(aM.nums (I,aa,ab) (by rw[au];exact List.mem_cons_self)).1;have bA:=uW bC;have bB:=uW aM.hi;have bz:b.holds.length=T.length+1:=by rw[au];rfl
 obtain⟨W2,ax⟩: ∃W2,W2=(w.alloc (.cells #[ι 0,ι 0,ι 0] 338)).alloc (.cells #[ι I,ι aa,ι ab] 338):=⟨_,rfl⟩;have ay:qa w W2:=by rw[ax];exact(qa.alloc w _).al _
 have aw:=an.row;rw[au] at aw;obtain⟨g,cap,rfl,bM,bd,bc⟩:=aw.cell 0 η;obtain⟨bu,bv,bw⟩:=bc _ (qa.alloc w (.cells #[ι 0,ι 0,ι 0] 338));rw[Nat.zero_mul] at bu bv bw;have bp:=(an.on (qa.alloc w (.cells #[ι 0,ι 0,ι 0] 338))).cells ⟨_,qa.refl _⟩;obtain⟨_,_,aY,_,_,_⟩:=bp;have bq:=(an.on ((qa.alloc w (.cells #[ι 0,ι 0,ι 0] 338)).al (.cells #[ι I,ι aa,ι ab] 338))).cells ⟨_,qa.refl _⟩;obtain⟨_,_,aZ,_,_,_⟩:=bq;have av:=κ (aw.more ay);have aF:=κ (an.on ay);have be:W2.heap[w.heap.size]? =some (.cells #[ι 0,ι 0,ι 0] 338 (0,0)):=by rw[ax];exact qq (qk w _) _
 have bf:W2.heap[w.heap.size+1]? =some (.cells #[ι I,ι aa,ι ab] 338 (0,0)):=by rw[ax];exact qB η
 rw[List.length_cons] at aY aZ av aF ⊢;have aK:g≠R:=by omega
 have bb:=lt_of_block an.blk;have bl:=κ ay;have bm:=κ be;have bn:=κ bf;obtain⟨d,aL⟩:=ν (T.length);rw[aL] at aY aZ av aF ⊢
 have aV:Hid (∀w',w'=W2->Calls prog 235 #[δ (some ⟨g,0,none⟩) (d+1) cap,ι 0,ι 1] w' λe Y=> ∃J H,e= .returned (δ J d H)/\zY Y (R+1) (δ J d H) T/\
   Y.heap[R]? =some (.cells (yh b (δ (some ⟨g,0,none⟩) (d+1) cap)) 235 (0,0))/\Y.heap[w.heap.size]? =some (.cells #[ι 0,ι 0,ι 0] 338 (0,0))/\Y.heap[w.heap.size+1]? =some (.cells #[ι I,ι aa,ι ab] 338 (0,0))/\
   qg (λk=>k=g) w Y/\(δ J d H).ownBlock=some g):=κ λw' e=>by
  subst e;refine(Vk (I,aa,ab) T _ (R+1) _ av.o).mono ?_;rintro e Y ⟨v3,rfl,ae,a3,ah⟩;obtain⟨J,H,rfl,_⟩:=ae.shape;rw[aL] at ae ah ⊢;have key: ∀k,(δ (some ⟨g,0,none⟩) (d+1) cap).ownBlock=some k->k=g:=λk U=>by injection U with U;exact U.symm
  have bx:w'.heap[R]? =some (.cells (yh b (δ (some ⟨g,0,none⟩) (d+1) cap)) 235 (0,0)):=aF.o.blk;exact⟨J,H,rfl,ae,a3.blk bx (λx=>aK (key _ x).symm),a3.blk bm.o (λx=>by have:=key _ x;omega),a3.blk bn.o (λx=>by have:=key _ x;omega),qg.old bl.o a3 (λk U=>Or.inl (key _ U)),ah⟩
 have aX:=κ ax;have aU:=κ au;clear bc av ay be bf au bz aw aL;cases hbg:b.begun with
 | false=>
  have ai:=κ hbg;clear hbg
  go_enter func178,ntmps178
  go_wp2_with (first | (go_at_call 235;(go_call aV.o _ aX.o.symm as e Y ⟨J,H,rfl,ae,N,ap,aj,a3,ah⟩;have aA:=κ N;have aC:=κ ap;have aD:=κ aj;have aH:=κ ae;have az:=κ a3;have ao:=κ ah;unfold yh at N;rw[ai.o] at N;have aQ:=qb N 2 rfl;have aT:=qd N 2;have aR:=qb N 3 rfl;have z3:=qd N 3;have aS:=qb aj 0 rfl;clear N ap aj a3 ah ae)) | (go_at_call 237;(go_call Yk I _ as e w5 ⟨rfl,ag⟩;have G:=qc ag (qo aA.o 2 (δ J d H));have O:=qc ag (qm aC.o ⟨R,2,none⟩ (δ J d H) (by simp;omega));have ad:=qc ag (qm aD.o ⟨R,2,none⟩ (δ J d H) (by simp;omega));have aB:=κ G;have aE:=κ O;have bL:=κ ad;have ac:=κ ag;unfold yh at G;rw[ai.o] at G;have bI:=qb G 3 rfl;have bJ:=qb G 4 rfl;have bK:=qb G 5 rfl;have bD:=qd G 3;have bE:=qd G 4;have bF:=qd G 5;have bG:=qb O 0 rfl;have bH:=qb O 1 rfl;have p2:=qb O 2 rfl;have br:=qd O 0;have bs:=qd O 1;have bt:=qd O 2;have t0:=qb ad 0 rfl;have t1:=qb ad 1 rfl;have t2:=qb ad 2 rfl;clear G O ad ag aQ aT aR z3 aS)))
  have ar:zY w5 (R+1) (δ J d H) T:=(aH.o.away ((qg.refl (λk=>k=R) Y).set (p:=⟨R,2,none⟩) rfl (δ J d H)) (λk U x=>by rw[ao.o] at U;injection U with U;omega)).more ac.o;have aq:qg (λk=>k=R∨k=g) w w5:=((az.o.mono λk U=>Or.inr U).trans ((qg.refl (λk=>k=R∨k=g) Y).set (p:=⟨R,2,none⟩) (Or.inl rfl) (δ J d H))).more ac.o;obtain⟨WF,ak⟩:=ν (((((((w5.setCell ⟨R,4,none⟩ (ι I)).setCell ⟨R,5,none⟩ (ψ 1)).setCell ⟨R,3,none⟩ (μ true)).setCell ⟨w.heap.size,0,none⟩ (ι I)).setCell ⟨w.heap.size,1,none⟩ (ι aa)).setCell ⟨w.heap.size,2,none⟩ (ι ab)));obtain⟨aN,aO,aP,st⟩:=Z1 (cap:=cap) aU.o (show wM b I=(I,1) by unfold wM;rw[ai.o];rfl) aB.o aE.o ar ao.o aq (Nat.le_refl _) bb aK bd ak;rw[ak];clear ak ar aq
  (refine bodyPost_ret (v:= θ #[ι I,ι aa,ι ab]) ?rr1 rfl ?_;(case rr1=>(simp[results,results178,go_sem,aN,aO,aP])))
  exact⟨rfl,_,st⟩
 | true=>
  have ai:=κ hbg;clear hbg
  go_enter func178,ntmps178
  go_wp2_with (go_at_call 235;(go_call aV.o _ aX.o.symm as e Y ⟨J,H,rfl,ae,N,ap,aj,a3,ah⟩;have aA:=κ N;have aC:=κ ap;have aD:=κ aj;have aH:=κ ae;have az:=κ a3;have ao:=κ ah;unfold yh at N;rw[ai.o] at N;have aQ:=qb N 2 rfl;have aT:=qd N 2;have aR:=qb N 3 rfl;have z3:=qd N 3;have aS:=qb aj 0 rfl;clear N ap aj a3 ah ae))
  generalize am:Y.setCell ⟨R,2,none⟩ (δ J d H)=w4 at *;have aI:w4.heap[R]? =some (.cells ((yh b (δ (some ⟨g,0,none⟩) (d+1) cap)).setIfInBounds 2 (δ J d H)) 235 (0,0)):=by rw[<-am];exact qo aA.o 2 _
  have ba:w4.heap[w.heap.size]? =some (.cells #[ι 0,ι 0,ι 0] 338 (0,0)):=by rw[<-am];exact qm aC.o ⟨R,2,none⟩ (δ J d H) (by simp;omega)
  have aJ:w4.heap[w.heap.size+1]? =some (.cells #[ι I,ι aa,ι ab] 338 (0,0)):=by rw[<-am];exact qm aD.o ⟨R,2,none⟩ (δ J d H) (by simp;omega)
  have bg:zY w4 (R+1) (δ J d H) T:=by
   rw[<-am];exact aH.o.away ((qg.refl (λk=>k=R) Y).set (p:=⟨R,2,none⟩) rfl (δ J d H)) (λk U x=>by rw[ao.o] at U;injection U with U;omega)
  have a4:qg (λk=>k=R∨k=g) w w4:=by
   rw[<-am];exact(az.o.mono λk U=>Or.inr U).trans ((qg.refl (λk=>k=R∨k=g) Y).set (p:=⟨R,2,none⟩) (Or.inl rfl) (δ J d H))
  have bi:=κ aI;have bj:=κ ba;have bk:=κ aJ;have bo:=κ bg;have bh:=κ a4;have aG:=λ(x:qp w4)=>qc x.h aI
  have c4:=λx=>β4 (aG x);have c5:=λx=>β5 (aG x);clear aG
  have c1:=λ(x:qp w4)=>β0 (qc x.h aJ)
  clear aI ba aJ bg a4 am aQ aT aR z3 aS;refine Qn w4 10 11 [7,8,10] ?_
  refine Qq7 ?_
  (refine Ql ?_;intro K af)
  refine(Qa b.hi b.bits I bB bA aM.bits _).mono ?_;rintro e w5 ⟨rfl,ag⟩;have ac:qa w4 w5:=(qa.drewN w4 1).trans ag;refine⟨_,rfl,qj ac,af _ _ ?_⟩;clear af K ag
  (refine Ql ?_;intro K af)
  refine⟨qj ac,af _ _ ?_⟩;clear af K
  refine Qq1 ?_
  have G:=qc ac bi.o;have O:=qc ac bj.o;have ad:=qc ac bk.o;have aB:=κ G;have aE:=κ O;have aW:=κ ac;unfold yh at G;rw[ai.o] at G;have bI:=qb G 3 rfl;have bJ:=qb G 4 rfl;have bK:=qb G 5 rfl;have bD:=qd G 3;have bE:=qd G 4;have bF:=qd G 5;have bG:=qb O 0 rfl;have bH:=qb O 1 rfl;have p2:=qb O 2 rfl;have br:=qd O 0;have bs:=qd O 1;have bt:=qd O 2;have t0:=qb ad 0 rfl;have t1:=qb ad 1 rfl;have t2:=qb ad 2 rfl;clear G O ad ac c4 c5 c1
  (refine Qe ?_;intro K af)
  refine af _ _ ?_;clear af K;refine qv ?_;go_wp2;have ar:zY w5 (R+1) (δ J d H) T:=bo.o.more aW.o;have aq:qg (λk=>k=R∨k=g) w w5:=bh.o.more aW.o;obtain⟨WF,ak⟩:=ν (((((((w5.setCell ⟨R,4,none⟩ (ι (zt b.hi b.bits I).1)).setCell ⟨R,5,none⟩ (ψ (zt b.hi b.bits I).2)).setCell ⟨R,3,none⟩ (μ true)).setCell ⟨w.heap.size,0,none⟩ (ι I)).setCell ⟨w.heap.size,1,none⟩ (ι aa)).setCell ⟨w.heap.size,2,none⟩ (ι ab)));obtain⟨aN,aO,aP,st⟩:=Z1 (cap:=cap) aU.o (show wM b I=((zt b.hi b.bits I).1,(zt b.hi b.bits I).2) by unfold wM;rw[ai.o];rfl) aB.o aE.o ar ao.o aq (Nat.le_refl _) bb aK bd ak;rw[ak];clear ak ar aq
  (refine bodyPost_ret (v:= θ #[ι I,ι aa,ι ab]) ?rr2 rfl ?_;(case rr2=>(simp[results,results178,go_sem,aN,aO,aP])))
  exact⟨rfl,_,st⟩
end
section
open Go.RowKit Go.Lib
def atJ (L:List Hd) (n:Int):Nat:=L.findIdx λk=>decide (n<k.1)
def uk (L:List Hd) (h:Hd):List Hd:=L.take (atJ L h.1)++h::L.drop (atJ L h.1)
def JV (b:Jb) (n:Int):Bool:=b.holds.any λk=>k.1==n
def jF (b:Jb) (n now x:Int):Jb×Int:=
 if JV b n||(b.begun&&yn b.hi b.bits n) then (b,10)
 else if b.begun&&decide (n<b.hi+1) then (b,9)
 else if b.room<=b.holds.length then (b,8)
 else ({b with holds:=uk b.holds (n,now,x)},0)
theorem Ug (L:List Hd) (n:Int):atJ L n<=L.length:=List.findIdx_le_length
theorem F6 (L:List Hd) (n:Int):(Js (λk=>decide (n<k.1)) L=(atJ L n:Int)/\atJ L n<L.length)∨(Js (λk=>decide (n<k.1)) L= -1/\atJ L n=L.length):=by
 unfold Js;have:=Ug L n;unfold atJ at *;by_cases h:L.findIdx (λk=>decide (n<k.1))<L.length
 ·left;rw[if_pos h];exact⟨rfl,h⟩
 ·right;rw[if_neg h];exact⟨rfl,τ⟩
theorem km.keep {w w':World} {R:Nat} {v:Value} {b:Jb} (m:qa w w') (d:xX w' R v b):km w w' R v v b:=⟨d,qg.of_more m,Or.inl rfl⟩
end
end Go.Proofs.YtlmllmonabafjaaGreatDoor
