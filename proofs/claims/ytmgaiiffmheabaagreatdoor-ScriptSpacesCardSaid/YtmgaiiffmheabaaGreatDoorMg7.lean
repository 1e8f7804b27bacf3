/- x -/
import Derived.Test.YtmgaiiffmheabaaGreatDoorMg4
import Derived.Test.YtmgaiiffmheabaaGreatDoorMg6
import Derived.Outline
namespace Go.Proofs.YtmgaiiffmheabaaGreatDoor
open Option renaming some->ϊ,none->ϋ
open Bool renaming true->ό,false->ύ
open Go.Value renaming bool->μ,slice->δ,pointer->π,agg->θ
open Go.IntKind renaming i64->ι,u8->υ,u16->φ,u32->ω,i32->χ,u64->ψ
open _root_.Go.Proofs.Tryz
set_option linter.all false
set_option maxHeartbeats 8000000
open Go.RowKit
set_option maxRecDepth 100000
variable {W:List (Int×List Int)} {w w':World} {v vo:Value} {N:Nat->Prop} {s:LnS} {xs:List Value} {j n:Nat} {k:LnB} {α:Type}
def kX {cs:Array Value} {t B:Nat} (d:B=w.heap.size): ∀j u,cs.toList[j]? =ϊ u->(w.alloc (.cells cs t)).cell? ⟨B,j,ϋ⟩=ϊ u:=by
 intro j u h;subst d;exact qa (qj w _) j (by simpa using h)
def ZI (s:LnS) (h:KM s) (acc:Bool) (w:World):Calls prog 228 #[θ #[ι s.most,ι s.row,s.gone],acc] w λe w'=>e= .returned (.tuple #[θ #[ι s.most,ι (V2 s acc).1,μ (V2 s acc).2.1],μ (V2 s acc).2.2])/\ql w w':=by
 obtain⟨d,G,H,_,_⟩:=h;cases hg:s.gone with
 | true=>
  have e:V2 s acc=(s.row,ό,ύ):=by unfold V2;rw[ϓ hg]
  rw[e];exact UL s.most s.row acc w
 | false=>
  cases acc with
  | true=>
   have e:V2 s ό=(0,ύ,ύ):=by unfold V2;rw[Ϗ (by rw[hg];decide),ϓ rfl]
   rw[e];exact Pj s.most s.row w
  | false=>
   have e:V2 s ύ=(s.row+1,s.row+1==s.most,s.row+1==s.most):=by unfold V2;rw[Ϗ (by rw[hg];decide),Ϗ ζ]
   rw[e];exact BD s.most s.row τ τ _ _ rfl rfl w
def Vx (s:LnS) (h:KM s) (acc:Bool) (s':LnS) (e:s'.most=s.most/\s'.row=(V2 s acc).1/\s'.gone=(V2 s acc).2.1/\s'.rw=s.rw):KM s':=by
 obtain⟨N,O,J,U,Y⟩:=h;obtain⟨d,G,H,I⟩:=e;unfold V2 at G H;refine⟨by rw[d];exact N, ?_, ?_,by rw[I];exact U,by rw[I];exact Y⟩
 ·rw[d,G];cases hg:s.gone with
  | true=>simpa using O
  | false=>
   have:=J hg;cases acc<;>simp<;>omega
 ·rw[d,G,H];cases hg:s.gone with
  | true=>simp
  | false=>
   have:=J hg;cases acc<;>simp<;>omega
section
variable {N:Nat->Prop} {w w':World} {k:LnB} {vo:Value} {s s':LnS}
def Ze (h:LnX N w k vo s) (acc:Bool) (G:vC s 3=ύ):Calls prog 177 #[γ k.L,acc] w λe w'=>e= .returned (.tuple #[ι 0,ι 0,ύ])/\ql w w':=by
 have d:=Jy h;rw[G] at d;have d:=κ d;clear G h
 go_enter func177,ntmps177
 go_wp2_with (go_at_call 175;(go_call d.o as e w1 ⟨rfl,H⟩;have I:=κ H;clear H))
 refine bodyPost_ret (v:= .tuple #[ι 0,ι 0,ύ]) (by simp[results,results177,go_sem]) rfl ?_;exact⟨rfl,I.o⟩
def YN (h:LnX N w k vo s) (bh:s.W.length<=1000000) (o:Int×List Int) (T:List (Int×List Int)) (aC:s.C=o::T) (af:Int) (g':Bool) (aD:V2 s ό=(af,g',ύ)):
  Calls prog 177 #[γ k.L,ό] w λe w'=>e= .returned (.tuple #[ι o.1,ι 1,ό])/\ ∃vo',LnX (xf N w w') w' k vo' {s with C:=T,W:=s.W++[o],row:=af,gone:=g'}/\jt N w w':=by
 have I:=κ h;have bE:=κ bh;have ah:=Jy h;have bk:vC s 3=ό:=by
  show decide (0<s.C.length)=ό;rw[aC];simp
 rw[bk] at ah;have ah:=κ ah;obtain⟨be,cA,aV,aW,aT,aU,aX,ai,aA⟩:=h.r3;rw[aC] at aA;obtain⟨c,q,rfl,aB,aP⟩:=aA.uncons;have AQ:=κ aP;have bu:=κ aB;obtain⟨v0,rfl,⟨Y,U,rfl,bW⟩,bX,bY⟩:=aB.read;have bz:=κ ai;have cv:k.R3<w.heap.size:=qn ai.ring;have cq:k.A3<w.heap.size:=qn ai.row;have aK:=κ h.dist;have aF:=ZI s h.ok ό;have bl:=Vx s h.ok ό {s with C:=T,W:=s.W++[o],row:=af,gone:=g'} (by rw[aD];exact⟨rfl,rfl,rfl,rfl⟩);rw[aD] at aF;have bB:=κ aF;have bC:=κ bl;clear aF bl aD;clear h bk ai aB aP aA bh aC bW bX bY
 go_enter func177,ntmps177
 go_wp2_with (first | (go_at_call 175;(go_call ah.o as e w1 ⟨rfl,ao⟩;have bG:=κ ao;have aw:=κ (qq ao I.o.blk);have aL:=κ (bz.o.more ao);clear ao;have cr:k.L<w1.heap.size:=qn aw.o;have c3:w1.cell? ⟨k.L,3,ϋ⟩=ϊ (π (ϊ ⟨k.R3,0,ϋ⟩)):=qa aw.o 3 rfl)) | (go_at_call 226;(go_call F9 w1 k.R3 k.A3 s.room be _ q aV aW aT aU aX aL.o as e w2 ⟨rfl,ap⟩;have az:Hid (ql w w2):=κ (bG.o.trans ap);have ax:=κ (qq ap aw.o);have bx:=κ (aL.o.more ap);clear ap;have ct:k.L<w2.heap.size:=qn ax.o;have c3:w2.cell? ⟨k.L,3,ϋ⟩=ϊ (π (ϊ ⟨k.R3,0,ϋ⟩)):=qa ax.o 3 rfl)) | (go_at_call 227;(go_call Na (w2.alloc (.cells #[ι o.1,δ Y o.2.length U] 209)) k.R3 k.A3 s.room be _ q aV aW aT aU aX (bx.o.more X6) as e H ⟨rfl,⟨cm,bf⟩,a3⟩;have bA:=κ bf;have A3:Hid (jt (RgB k.R3 k.A3) w H):=κ (((jt.of_more az.o).alc _).trans a3);have aJ:Hid (H.heap[k.L]? =ϊ (.cells (jQ k vo s) 223 (0,0))):=κ (a3.blk (qs ax.o _) (by obtain⟨⟨aY,aZ,ba,bb,bc,bd⟩,_⟩:=aK.o;rintro(e | e)<;>omega));have aN:Hid (H.heap[w2.heap.size]? =ϊ (.cells #[ι o.1,δ Y o.2.length U] 209 (0,0))):=κ (a3.blk (qj w2 _) (by have:=az.o.size;rintro(e | e)<;>omega));clear bf a3)))
 have am: ∀b,vo.ownBlock=ϊ b->N b/\ ¬k.muts b:=λb d=>I.o.vob d
 have bo: ∀b,vo.ownBlock=ϊ b->b<w.heap.size:=λb d=>I.o.own b (am b d).1
 have z3:w.heap.size<=H.heap.size:=A3.o.size;have cD:w.heap.size<=w2.heap.size:=az.o.size;have bp: ¬vo.ownBlock=ϊ k.L:=λe=>(am _ e).2 (ϑ rfl)
 have br: ¬vo.ownBlock=ϊ w2.heap.size:=λe=>by have:=bo _ e;omega
 have bD:=κ am;clear am bo;obtain⟨cf,hi,ca,cb,cc⟩:=info_parts (P:=prog) (e:=209) (z:= Γs) (size:=2) (bytes:=32) ξ;have bF:=λ(x:qz (λb=>vo.ownBlock=ϊ b) H)=>β0 (x.h.blk aJ.o bp)
 have aM: ∀x:qz (λb=>vo.ownBlock=ϊ b) H,x.w'.rangeAt w2.heap.size 0 [ι o.1,δ Y o.2.length U]:=λx=>xy (x.h.blk aN.o br)
 refine QN (λb=>vo.ownBlock=ϊ b) H 12 13 [7,8,9,10,12] ?_
 refine Qs6 ?_
 refine jh rfl rfl (qi σ) 209 (.tmp 7) rfl w2.heap.size 0 rfl [ι o.1,δ Y o.2.length U] _ (λw' an=>by obtain⟨x,rfl⟩:=an;exact aM x) underlying209 rfl ξ ?_;intro K G;go_simp;refine G _ ?_;clear G K bF aM
 (refine Ql ?_;intro K G)
 refine⟨qi (((jt.refl _ H).drewN 1).alc _),G _ _ ?_⟩;clear G K;have ar:Hid (jt (RgB k.R3 k.A3) w ((H.drewN 1).alloc (.cells #[ι o.1,δ Y o.2.length U] 209))):=κ ((A3.o.drewN 1).alc _);have al: ∀b,RgB k.R3 k.A3 b->k.muts b:=λb d=>ϕ (ϕ (ϕ d))
 have bt:=(I.o.o.step (ar.o.mono λb d _=>al b d)).widen (D':=λb=>(N b∨w.heap.size<=b)->k.muts b) (λb d=>ϑ λJ=>d (ϑ J));have bs:jw ROu (λb=>((N b∨w.heap.size<=b)->k.muts b)∨vo.ownBlock=ϊ b) ((H.drewN 1).alloc (.cells #[ι o.1,δ Y o.2.length U] 209)) [ι o.1,δ Y o.2.length U] o:=(bu.o.step (ar.o.mono λb d=>kZ (al b d))).other λb d=>by
  rcases d with e | e
  ·exact ϑ (ϑ λJ=>e (ϑ J))
  ·exact ϑ (ϕ e)
 refine jR rfl rfl ?_;intro K G
 refine zK (.tmp 35) (.tmp 37) 217 rfl 0 209 cf (Γs) 2 32 underlying217 hi ca cb cc rfl ζ vo s.W rfl bt H.heap.size [ι o.1,δ Y o.2.length U] o rfl rfl (kX rfl) X8 bs (λb d=>by
  by_cases an:b<w.heap.size
  ·have:=ar.o.size;omega
  ·have:=I.o.own b (I.o.muts b (d (ϕ τ)));omega) ζ (by have:=bE.o;omega) (ϫ _) ?_
 intro cB w6 aE bj bi;have bI:=κ aE;have bJ:=κ bi;have aa:Hid (jt (λb=>vo.ownBlock=ϊ b) H w6):=κ ((((jt.refl _ H).drewN 1).alc _).trans (jt.of_grown bj));have ay:=κ (aa.o.blk aJ.o bp);have bK:=κ (aa.o.blk aN.o br);obtain⟨ae,ac,ab,rfl,bT,bU⟩:=aE.shape;clear aE bj bi bt bs bT bU;have bM:w6.cell? ⟨k.L,0,ϋ⟩=ϊ vo:=qa ay.o 0 rfl;have bP:w6.frozen? ⟨k.L,0,ϋ⟩=ύ:=yw ay.o 0;refine⟨qi aa.o,G _ _ ?_⟩;clear G K;go_simp
 (refine Ql ?_;intro K G)
 refine⟨qi aa.o,G _ _ ?_⟩;clear G K
 (refine Ql ?_;intro K G)
 refine⟨qi aa.o,G _ _ ?_⟩;clear G K
 iterate 1 (refine qE rfl rfl (qi aa.o) ?_;intro K G;go_big_quiet_op;go_big_quiet_on)
 (refine Qe ?_;intro K G)
 refine G _ _ ?_;clear G K;refine qA ?_;obtain⟨W7,aj⟩:=ν (w6.setCell ⟨k.L,0,ϋ⟩ (δ ae ac ab));have aH:Hid (jt (λb=>b=k.L) w6 W7):=κ (by rw[<-aj];exact(jt.refl (λb=>b=k.L) w6).set (p:=⟨k.L,0,ϋ⟩) rfl _);have bq: ¬w2.heap.size=k.L:=by omega
 have ag:Hid (W7.heap[k.L]? =ϊ (.cells (jQ k (δ ae ac ab) s) 223 (0,0))):=κ (by rw[<-aj];exact qB (qp ay.o 0 _) rfl);have bL:=κ (aH.o.blk bK.o bq);rw[aj];clear aj bM bP;have aQ:W7.cell? ⟨k.L,13,ϋ⟩=ϊ (ι s.most):=qa ag.o 13 rfl;have aR:W7.cell? ⟨k.L,14,ϋ⟩=ϊ (ι s.row):=qa ag.o 14 rfl;have aS:W7.cell? ⟨k.L,15,ϋ⟩=ϊ (μ s.gone):=qa ag.o 15 rfl;have bq: ¬w2.heap.size=k.L:=by omega
 go_wp2_with (go_at_call 228;(go_call bB.o _ as e w8 ⟨rfl,aq⟩;have bH:=κ aq;have O:=κ (qq aq ag.o);have aO:=κ (qq aq bL.o);clear aq;have cu:k.L<w8.heap.size:=qn O.o;have cw:w2.heap.size<w8.heap.size:=qn aO.o;have cC:w8.cell? ⟨w2.heap.size,0,ϋ⟩=ϊ (ι o.1):=qa aO.o 0 rfl;have aQ:w8.cell? ⟨k.L,13,ϋ⟩=ϊ (ι s.most):=qa O.o 13 rfl;have aR:w8.cell? ⟨k.L,14,ϋ⟩=ϊ (ι s.row):=qa O.o 14 rfl;have aS:w8.cell? ⟨k.L,15,ϋ⟩=ϊ (μ s.gone):=qa O.o 15 rfl;have bQ:w8.frozen? ⟨k.L,13,ϋ⟩=ύ:=yw O.o 13;have bR:w8.frozen? ⟨k.L,14,ϋ⟩=ύ:=yw O.o 14;have bS:w8.frozen? ⟨k.L,15,ϋ⟩=ύ:=yw O.o 15))
 refine bodyPost_ret (v:= .tuple #[ι o.1,ι 1,ό]) (by simp[results,results177,go_sem]) rfl ?_;obtain⟨WF,ak⟩:=ν ((((w8.setCell ⟨k.L,13,ϋ⟩ (ι s.most)).setCell ⟨k.L,14,ϋ⟩ (ι af)).setCell ⟨k.L,15,ϋ⟩ (μ g')).alloc (.cells #[ι s.most,ι af,g'] 211));have bv:jt (λb=>b=k.L) w8 WF:=by rw[<-ak];exact((((jt.refl (λb=>b=k.L) w8).set (p:=⟨k.L,13,ϋ⟩) rfl _).set (p:=⟨k.L,14,ϋ⟩) rfl _).set (p:=⟨k.L,15,ϋ⟩) rfl _).alc _
 have bw:WF.heap[k.L]? =ϊ (.cells (jQ k (δ ae ac ab) {s with C:=T,W:=s.W++[o],row:=af,gone:=g'}) 223 (0,0)):=by rw[<-ak];exact qs (qB (qp (qp (qp O.o 13 _) 14 _) 15 _) rfl) _
 rw[ak];clear ak aQ aR aS bQ bR bS;have aI:jt (λb=>b=k.L) w6 WF:=(aH.o.more bH.o).trans bv;have aG:jt (λb=>b=k.L∨vo.ownBlock=ϊ b) H WF:=(aa.o.mono λb d=>ϕ d).trans (aI.mono λb d=>ϑ d);have av:jt (λb=>(b=k.L∨vo.ownBlock=ϊ b)∨RgB k.R3 k.A3 b) w WF:=(A3.o.mono λb d=>ϕ d).trans (aG.mono λb d=>ϑ d);obtain⟨⟨aY,aZ,ba,bb,bc,bd⟩,⟨cn,co,cp,bN,bO⟩,⟨cx,cy,cd,ce⟩,⟨cz,cg,ch⟩,⟨ci,cj⟩,_⟩:=aK.o;have ad: ∀b,k.muts b-> ¬vo.ownBlock=ϊ b:=λb d e=>(bD.o _ e).2 d
 have au:jt (lnM k vo) w WF:=av.mono λb d=>by
  rcases d with (e | e) | e
  ·exact ϑ (ϑ e)
  ·exact ϕ e
  ·exact ϑ (al b e)
 have bn: ∀b,(δ ae ac ab).ownBlock=ϊ b->vo.ownBlock=ϊ b∨w.heap.size<=b:=λb d=>by
  rcases bJ.o with e | e
  ·exact ϑ (by rw[<-e];exact d)
  ·rw[d] at e;injection e with e
   subst e;exact ϕ (by have:=z3;simp;omega)
 have bg: ∀b,((b=k.L∨vo.ownBlock=ϊ b)∨RgB k.R3 k.A3 b)->lnE N k vo b:=λb d=>by
  rcases d with (e | e) | e
  ·exact kZ (ϑ e)
  ·exact ϕ e
  ·exact kZ (al b e)
 have bm: ∀b,lnE (xf N w WF) k (δ ae ac ab) b->lnE N k vo b∨WF.heap.size<=b:=λb d=>ϑ (xE I.o.own bn d)
 have bV:je 2 ROu (lnD (xf N w WF) k) WF 0 209 (δ ae ac ab) (s.W++[o]):=(bI.o.step (aI.mono λb d _=>ϑ d)).widen λb d=>by
  by_cases an:b<WF.heap.size
  ·refine ϑ λJ=>d ?_
   rcases J with J | J
   ·exact ϑ J
   ·exact ϕ ⟨J,an⟩
  ·exact ϕ τ
 have n1: ¬k.R1=k.L:=C4 aY;have n2: ¬k.A1=k.L:=C4 aZ;have n3: ¬k.R2=k.L:=C4 ba;have ck: ¬k.A2=k.L:=C4 bb;have n5: ¬k.R3=k.L:=C4 bc;have cl: ¬k.A3=k.L:=C4 bd;refine⟨rfl,_,I.o.make au.size bw (I.o.r1.step av ?_ ?_ bg bm) (I.o.r2.step av ?_ ?_ bg bm) ⟨_,_,_,_,_,_,_,bA.o.away aG ?_ ?_,AQ.o.mono λc y bZ=>I.o.held bZ au bn⟩ bV bC.o,au.mono λb d=>I.o.inN d⟩
 ·rintro((e | e) | (e | e));exact n1 e;exact ad _ (ϕ (ϑ (ϑ rfl))) e;exact bN e;exact bO e
 ·rintro((e | e) | (e | e));exact n2 e;exact ad _ (ϕ (ϑ (ϕ rfl))) e;exact cd e;exact ce e
 ·rintro((e | e) | (e | e));exact n3 e;exact ad _ (ϕ (ϕ (ϑ (ϑ rfl)))) e;exact cg e;exact ch e
 ·rintro((e | e) | (e | e));exact ck e;exact ad _ (ϕ (ϕ (ϑ (ϕ rfl)))) e;exact ci e;exact cj e
 ·rintro(e | e);exact n5 e;exact ad _ (ϕ (ϕ (ϕ (ϑ rfl)))) e
 ·rintro(e | e);exact cl e;exact ad _ (ϕ (ϕ (ϕ (ϕ rfl)))) e
def DF (s:LnS) (j:Nat):LnS:={s with A:=if 1<j then [] else s.A,B:=if 2<j then [] else s.B,C:=if 3<j then [] else s.C}
def PU (s:LnS) (j:Nat) (h:1<=j/\j<=3):vh (DF s j) j=DF s (j+1):=by
 obtain⟨d,G⟩:=h
 match j,d,G with
 | 1,_,_=>rfl
 | 2,_,_=>rfl
 | 3,_,_=>rfl
def wA (h:LnX N w k vo s) (bc:s.W.length<=1000000) (o:Int×List Int) (T:List (Int×List Int)) (am:s.C=o::T) (H:Int) (g':Bool) (z:Bool) (an:V2 s ύ=(H,g',z)):
  Calls prog 177 #[γ k.L,ύ] w λe w'=>e= .returned (.tuple #[ι o.1,ι (if z then 7 else 0),ό])/\LnX (xf N w w') w' k vo (if z then DF {s with row:=H,gone:=g'} 4 else {s with row:=H,gone:=g'})/\jt N w w':=by
 have G:=κ h;have Y:=Jy h;have aE:vC s 3=ό:=by
  show decide (0<s.C.length)=ό;rw[am];simp
 rw[aE] at Y;have Y:=κ Y;obtain⟨aY,bs,aV,aW,aT,aU,aX,aC,aj⟩:=h.r3;rw[am] at aj;obtain⟨c,q,rfl,ak,aS⟩:=aj.uncons;have bk:=κ ak;obtain⟨v0,rfl,⟨aH,aB,rfl,bf⟩,bg,bh⟩:=ak.read;have aJ:=κ aC;have ao:=ZI s h.ok ύ;have aF:=Vx s h.ok ύ {s with row:=H,gone:=g'} (by rw[an];exact⟨rfl,rfl,rfl,rfl⟩);rw[an] at ao;have aL:=κ ao;have av:=κ aF;clear ao aF an;clear h aE aC ak aS aj bc am bf bg bh
 go_enter func177,ntmps177
 cases z
 all_goals
  go_wp2_with (first | (go_at_call 175;(go_call Y.o as e w1 ⟨rfl,ad⟩;have aO:=κ ad;have ah:=κ (qq ad G.o.blk);have au:=κ (aJ.o.more ad);clear ad;have bm:k.L<w1.heap.size:=qn ah.o;have c3:w1.cell? ⟨k.L,3,ϋ⟩=ϊ (π (ϊ ⟨k.R3,0,ϋ⟩)):=qa ah.o 3 rfl)) | (go_at_call 226;(go_call F9 w1 k.R3 k.A3 s.room aY _ q aV aW aT aU aX au.o as e w2 ⟨rfl,ae⟩;have ax:Hid (ql w w2):=κ (aO.o.trans ae);have I:=κ (qq ae ah.o);have bl:=κ (au.o.more ae);clear ae;have bn:k.L<w2.heap.size:=qn I.o;have c3:w2.cell? ⟨k.L,3,ϋ⟩=ϊ (π (ϊ ⟨k.R3,0,ϋ⟩)):=qa I.o 3 rfl;have ay:w2.cell? ⟨k.L,13,ϋ⟩=ϊ (ι s.most):=qa I.o 13 rfl;have az:w2.cell? ⟨k.L,14,ϋ⟩=ϊ (ι s.row):=qa I.o 14 rfl;have aA:w2.cell? ⟨k.L,15,ϋ⟩=ϊ (μ s.gone):=qa I.o 15 rfl)) | (go_at_call 228;(go_call aL.o (w2.alloc (.cells #[ι o.1,δ aH o.2.length aB] 209)) as e w8 ⟨rfl,af⟩;have aP:Hid (ql w w8):=κ ((ax.o.al _).trans af);have d:=κ (qq af (qs I.o _));have aa:=κ (qq af (qj w2 (.cells #[ι o.1,δ aH o.2.length aB] 209)));clear af;have bo:k.L<w8.heap.size:=qn d.o;have bp:w2.heap.size<w8.heap.size:=qn aa.o;have bt:w.heap.size<=w2.heap.size:=ax.o.size;have bj: ¬w2.heap.size=k.L:=τ;have aI:w8.cell? ⟨w2.heap.size,0,ϋ⟩=ϊ (ι o.1):=qa aa.o 0 rfl;have ay:w8.cell? ⟨k.L,13,ϋ⟩=ϊ (ι s.most):=qa d.o 13 rfl;have az:w8.cell? ⟨k.L,14,ϋ⟩=ϊ (ι s.row):=qa d.o 14 rfl;have aA:w8.cell? ⟨k.L,15,ϋ⟩=ϊ (μ s.gone):=qa d.o 15 rfl;have aZ:w8.frozen? ⟨k.L,13,ϋ⟩=ύ:=yw d.o 13;have ba:w8.frozen? ⟨k.L,14,ϋ⟩=ύ:=yw d.o 14;have bb:w8.frozen? ⟨k.L,15,ϋ⟩=ύ:=yw d.o 15)))
  obtain⟨WF,ab⟩:=ν ((((w8.setCell ⟨k.L,13,ϋ⟩ (ι s.most)).setCell ⟨k.L,14,ϋ⟩ (ι H)).setCell ⟨k.L,15,ϋ⟩ (μ g')).alloc (.cells #[ι s.most,ι H,g'] 211));have ag:jt (λb=>b=k.L) w8 WF:=by rw[<-ab];exact((((jt.refl (λb=>b=k.L) w8).set (p:=⟨k.L,13,ϋ⟩) rfl _).set (p:=⟨k.L,14,ϋ⟩) rfl _).set (p:=⟨k.L,15,ϋ⟩) rfl _).alc _
  have ai:WF.heap[k.L]? =ϊ (.cells (jQ k vo {s with row:=H,gone:=g'}) 223 (0,0)):=by rw[<-ab];exact qs (qB (qp (qp (qp d.o 13 _) 14 _) 15 _) rfl) _
  rw[ab];clear ab ay az aA aZ ba bb;have J:jt (λb=>b=k.L) w WF:=(jt.of_more aP.o).trans ag
 ·refine bodyPost_ret (v:= .tuple #[ι o.1,ι 0,ό]) (by simp[results,results177,go_sem]) rfl ?_;exact⟨rfl,G.o.setL J ai ⟨rfl,rfl,rfl,rfl,rfl⟩ av.o,J.mono λb O=>by rw[O];exact G.o.muts _ (ϑ rfl)⟩
 ·have aN:=κ (G.o.setL J ai ⟨rfl,rfl,rfl,rfl,rfl⟩ av.o);have aq:=κ J;have aQ:=κ (ag.blk aa.o bj);have be: ¬k.muts w2.heap.size:=λe=>by have:=G.o.own _ (G.o.muts _ e);omega
  clear J ag ai d aa aI
  go_loopw [12] (λt wr=> ∃j:Nat,1<=j/\j<=4/\t= ι j/\LnX (xf N w wr) wr k vo (DF {s with row:=H,gone:=g'} j)/\jt k.muts WF wr) (λt _=>4-(intOf t).toNat)
  case atStart=>exact⟨1,τ,τ,rfl,aN.o,jt.refl _ _⟩
  case round=>
   obtain⟨j,bd,bq,rfl,aD,ac⟩:=hrel;have aw:=κ aD;have ar:=κ ac;have bi:Hid (w.heap.size<=wr.heap.size):=κ (ϙ aq.o.size ac.size);have aR:=κ (ac.blk aQ.o be);have aI:wr.cell? ⟨w2.heap.size,0,ϋ⟩=ϊ (ι o.1):=qa aR.o 0 rfl;clear aD ac;by_cases hlt:j<=3
   ·have br:(j:Int)<=3:=by omega
    have aG:(j:Int)=1∨(j:Int)=2∨(j:Int)=3:=by omega
    have aK:=κ (Cm aw.o j aG);clear aG
    go_wp2_with (go_at_call 182;(go_call aK.o as e w9 ⟨⟨v9,rfl⟩,U,a9⟩;have aM:=κ U;have ap:=κ a9;clear U a9))
    go_roundw
    case rel=>
     have U:=aM.o;rw[Wl bi.o ap.o.size,PU _ j ⟨bd,hlt⟩] at U;exact⟨j+1,τ,τ,by go_num,U,ar.o.trans ap.o⟩
    case measure=>simp[intOf];omega
   ·obtain rfl:j=4:=by omega
    go_wp2;refine bodyPost_ret (v:= .tuple #[ι o.1,ι 7,ό]) (by simp[results,results177,go_sem]) rfl ?_;exact⟨rfl,aw.o,(aq.o.mono λb O=>by rw[O];exact G.o.muts _ (ϑ rfl)).trans (ar.o.mono λb O=>G.o.muts b O)⟩
def Ar (h:LnX N w k vo s) (I:s.W.length<=1000000) (acc:Bool):Calls prog 177 #[γ k.L,acc] w λe w'=>e= .returned (.tuple #[ι (qX s acc).2.1,ι (qX s acc).2.2.1,μ (qX s acc).2.2.2])/\ ∃vo',LnX (xf N w w') w' k vo' (qX s acc).1/\jt N w w':=by
 cases hC:s.C with
 | nil=>
  have e:qX s acc=(s,0,0,ύ):=by unfold qX;rw[hC]
  rw[e];refine(Ze h acc (by show decide (0<s.C.length)=ύ;rw[hC];rfl)).mono ?_;rintro e w' ⟨rfl,m⟩;exact⟨rfl,vo,h.grow m,jt.of_more m⟩
 | cons o T=>
  rcases ho:V2 s acc with ⟨d,g',b⟩
  cases b with
  | true=>
   have J:acc=ύ:=by
    cases acc with
    | false=>rfl
    | true=>
     unfold V2 at ho;split at ho<;>simp at ho
   subst J;have e:qX s ύ=(DF {s with row:=d,gone:=g'} 4,o.1,7,ό):=by unfold qX;rw[hC];simp only[ho];rfl
   rw[e];refine(wA h I o T hC d g' ό ho).mono ?_;rintro e w' ⟨rfl,G,H⟩;exact⟨rfl,vo,G,H⟩
  | false=>
   cases acc with
   | true=>
    have e:qX s ό=({s with C:=T,W:=s.W++[o],row:=d,gone:=g'},o.1,1,ό):=by unfold qX;rw[hC];simp only[ho];rfl
    rw[e];exact YN h I o T hC d g' ho
   | false=>
    have e:qX s ύ=({s with row:=d,gone:=g'},o.1,0,ό):=by unfold qX;rw[hC];simp only[ho];simp[hC]
    rw[e];refine(wA h I o T hC d g' ύ ho).mono ?_;rintro e w' ⟨rfl,G,H⟩;exact⟨rfl,vo,G,H⟩
end
def QZ (d:α) (p:Nat->α->Prop): ∀m,(∀i,i<m-> ∃c,p i c)-> ∃l:List α,l.length=m/\ ∀i,i<m->p i (l.getD i d)
 | 0,_=>⟨[],rfl,λi hi=>ϧ hi τ⟩
 | m+1,h=>by
  obtain⟨l,G,I⟩:=QZ d p m λi hi=>h i τ
  obtain⟨c,H⟩:=h m τ;refine⟨l++[c],by simp[G],λi hi=> ?_⟩;by_cases e:i<m
  ·have:=I i e;rw[ϒ] at this ⊢;rw[Ψ τ];exact this
  ·obtain rfl:i=m:=by omega
   rw[ϒ,ε τ,G]
   simpa using H
def Q0: ∀(css:List (List Value)),(∀c∈css,c.length=n)->css.flatten.length=css.length* n
 | [],_=>by simp
 | c::css,h=>by
  rw[D5,ώ,Q0 css λd G=>h d (by simp[G]),h c η,Ϙ,I5];omega
def Ox: ∀(css:List (List Value)) (i j:Nat),(∀c∈css,c.length=n)->i<css.length->j<n->css.flatten[i* n+j]? =(css.getD i [])[j]?
 | [],_,_,_,h,_=>ϧ h η
 | c::css,0,j,hl,_,hj=>by
  have:=hl c η;rw[D5,N4,G5,Ψ τ];rfl
 | c::css,i+1,j,hl,hi,hj=>by
  have d:=hl c η;rw[D5,ε (by rw[d,I5];omega),d,show (i+1)* n+j-n=i* n+j by rw[I5];omega];exact Ox css i j (λG H=>hl G (by simp[H])) (by simpa using hi) hj
def ym {P:Program} (U w:World) {ops:Array Oper} {rest:List Oper} {o:Oper} {a:Act} {Q:Exit->Act->World->Prop} (am:o.guard=ϋ) (s x:Operand) (t:TypeId)
  (ao:o.op= .call {callee:= .builtin .append,args:= #[s,x],argTypes:= #[t,t]})
  (base:Nat) (e:TypeId) (i:TypeInfo) (z:Value) (n bytes:Nat) (ar:P.underlying t=ϊ (.slice e)) (hi:P.info? e=ϊ i) (aV:i.zero=ϊ z)
  (aR:i.size=n) (aF:i.bytes=bytes) (aW:z.cells.size=n) (ai:0<n)
  {R:qL α} (aD:QQ R) (aQ: ∀w cs y,R w cs y-> ∀u∈cs,u.oneCell'=ό)
  (v:Value) (L:List α) (O:a.eval s=v) (ap:je n R (λ_=>False) w base e v L)
  (aw:Value) (M:List α) (au:a.eval x=aw) (aL:SlP n R U aw M) (an:ql U w) (aU: ∀b,v.ownBlock=ϊ b->U.heap.size<=b)
  (aZ:1<=bytes) (aG:(L.length+M.length)* bytes<=140737488355328) (aE:base<=w.heap.size)
  (h: ∀v' w',je n R (λ_=>False) w' base e v' (L++M)->w.grownBy w' v.ownBlock->(v'.ownBlock=v.ownBlock∨v'.ownBlock=ϊ w.heap.size)->wpList P ops Q rest (a.put o.dst v') w'):wpList P ops Q (o::rest) a w:=by
 have aC:L.length+M.length<=maxLen:=by
  have:=K2 (L.length+M.length) (show 0<bytes by omega);unfold maxLen;omega
 obtain⟨aX,cap,rfl,bb,aM,bc,bd,aN⟩:=aL;obtain⟨⟨xs,ac,aJ⟩,aY⟩:=id ap;cases aX with
 | none=>
  have ag:cap=0:=aN rfl;subst ag;have aO:M=[]:=Ϡ τ;subst aO;refine wpList_append_own_none am s x t ao base e i n ar hi v L.length xs O ac au ?_;exact h v w (by simpa using ap) ⟨rfl,rfl,rfl,ϔ _,λ_ _ _=>rfl⟩ (ϑ rfl)
 | some ad=>
  obtain⟨css,aI,ae⟩:=QZ ([]:List Value) (λk cs=> ∀d:k<M.length,∃b off,ad=⟨b,off,ϋ⟩/\b<U.heap.size/\cs.length=n/\(∀j,j<n->U.cell? ⟨b,off+k* n+j,ϋ⟩=cs[j]?)/\R U cs M[k]) M.length (λk d=>by
   obtain⟨b,off,cs,ax,aA,Y,aB,J⟩:=aM k d
   exact⟨cs,λ_=>⟨b,off,by injection ax,aA,Y,aB,J⟩⟩)
  have av: ∀c∈css,c.length=n:=λc ab=>by
   obtain⟨k,d,rfl⟩:=B4.1 ab;obtain⟨_,_,_,_,Y,_⟩:=ae k τ τ;rw[ϒ,ϖ d] at Y;exact Y
  have al:css.flatten.length=M.length* n:=by rw[Q0 css av,aI]
  have ak: ∀k j,k<M.length->j<n->css.flatten[k* n+j]? =(css.getD k [])[j]? :=λk j d I=>Ox css k j av τ I
  refine wpList_append_own_at w am s x t ao base e i z n bytes ar hi aV aR aF aW ai v L.length xs O ac ad M.length cap css.flatten au al ?_ ?_ aC aG aE ?_
  ·intro j u I;have aK:j<M.length* n:=by rw[<-al];exact(ϣ.1 I).1
   have aj:j/n<M.length:=by rw[T6 ai];exact aK
   have aq:j%n<n:=I2 _ ai;have az:j/n* n+j%n=j:=by rw[Nat.mul_comm];exact T3 j n
   obtain⟨b,off,rfl,G,_,ab,_⟩:=ae _ aj aj;have ay:(⟨b,off,ϋ⟩:Addr).add j=⟨b,off+j,ϋ⟩:=by
    unfold Addr.add;split
    ·rename_i ag;subst ag;rfl
    ·rfl
   rw[ay,an.cells b _ G,show off+j=off+j/n* n+j%n by omega,ab _ aq,<-ak _ _ aj aq,az];exact I
  ·intro u aS;obtain⟨c,ab,aT⟩:=List.mem_flatten.1 aS;obtain⟨k,d,rfl⟩:=B4.1 ab;obtain⟨_,_,_,_,_,_,J⟩:=ae k τ τ;rw[ϒ,ϖ d] at J;exact aQ _ _ _ J u aT
  ·intro v' w' aP H _ N;have aH: ∀k (d:k<(L++M).length),jw R (λk=>False∨v.ownBlock=ϊ k) w (((xs++css.flatten).drop (k* n)).take n) (L++M)[k]:=by
    intro k d;rw[ώ] at d;by_cases e:k<L.length
    ·have ba:k* n+n<=L.length* n:=by
      have:(k+1)* n<=L.length* n:=A0 n e;rw[I5,O3] at this;exact this
     have be:=ac.1;have af:((xs++css.flatten).drop (k* n)).take n=(xs.drop (k* n)).take n:=by
      rw[I6 τ,I7 (by rw[Ϭ];omega)]
     rw[af,R5 e];exact aJ k e
    ·have ah:k-L.length<M.length:=by omega
     obtain⟨_,_,_,_,Y,_,J⟩:=ae _ ah ah;have af:((xs++css.flatten).drop (k* n)).take n=css.getD (k-L.length) []:=by
      apply M3;intro j;rw[C0];split
      ·rename_i I;rw[G1,<-ak _ _ ah I,ε (by rw[ac.1];have:=A0 n (show L.length<=k by omega);omega),ac.1]
       congr 1
       rw[Nat.sub_mul];have:=A0 n (show L.length<=k by omega);omega
      ·rename_i I;exact(M8.2 τ).symm
     rw[af,List.getElem_append_right τ];exact(jw.old aD J (λb G=>by rcases G with G | G;exact ϧ G id;exact aU b G)).on an
   refine h v' w' ⟨⟨xs++css.flatten,by rw[ώ];exact aP,λk d w'' a'=> ?_⟩,λ_ _=>id⟩ H N;refine aH k d w'' ⟨a'.os.trans H.os,a'.tape.trans H.tape,a'.output.trans H.output,ϙ H.size a'.size,λb G O=> ?_⟩;rw[a'.block b (ϗ G H.size) ?_]
   ·exact H.block b G (λe=>O (ϕ e.symm))
   ·rintro(aa | aa)
    ·exact O (ϑ aa)
    ·rcases N with N | N
     ·exact O (ϕ (by rw[<-N];exact aa))
     ·rw[N] at aa;have:w.heap.size=b:=by injection aa
      omega
def Ip: ∀(w:World) (cs:List Value) (y:Int×List Int),ROu w cs y-> ∀u∈cs,u.oneCell'=ό:=by
 rintro w cs y ⟨v,rfl,⟨G,cap,rfl,_⟩,_⟩ u d;simp at d;rcases d with rfl | rfl<;>rfl
def ED (w:World):je 2 ROu (λ_=>False) (w.alloc (.cells #[] 209)) w.heap.size 209 (δ (ϊ ⟨w.heap.size,0,ϋ⟩) 0 0) []:=
 ⟨⟨[],by simpa using World.ownsRow_lit (e:=209) (size:=2) (base:=w.heap.size) w #[] 0 (ϔ _) (by unfold maxLen;omega) rfl,λi hi=>by simp at hi⟩,λ_ _ h=>h⟩
def qbA (v:Value) (l:List (Int×List Int)) (w:World) (h:SlP 2 ROu w v l) (H:l.length<=1000000):
  Calls prog 196 #[v] w λe w'=>(∃v',e= .returned v'/\je 2 ROu (λ_=>False) w' w.heap.size 209 v' l)/\ql w w':=by
 obtain⟨ak,hi,ah,ai,aj⟩:=info_parts (P:=prog) (e:=209) (z:= Γs) (size:=2) (bytes:=32) ξ;have I:=κ h;have ac:=κ H;obtain⟨al,cap,rfl,J,N,O,U,d⟩:=h;cases al with
 | none=>
  obtain rfl:cap=0:=d rfl;obtain rfl:l=[]:=Ϡ τ;clear I J N O U d H;have ag:=λw=>Lib.run_eql_slice_nil (P:=prog) w 217 209 ϋ 0 0 0 0 underlying217
  go_enter func196,ntmps196
  go_wp2;go_ret;exact⟨⟨_,rfl,je.nil 2 ROu _ _ _ _⟩,ql.refl _⟩
 | some ad=>
  clear J N O U d H;have ag:=λw=>Lib.run_eql_slice_nil (P:=prog) w 217 209 (ϊ ad) l.length cap 0 0 underlying217
  go_enter func196,ntmps196
  go_wp2_with (at_builtin;refine ym w _ rfl (.tmp 5) (.tmp 6) 217 rfl w.heap.size 209 ak (Γs) 2 32 underlying217 hi ah ai aj rfl ζ Ff Ip _ [] rfl (ED w) _ l rfl I.o X6 (λb G=>by cases G;exact ϔ _) ζ (by have:=ac.o;simp;omega) (ql.alloc w _).size ?_;intro am w2 aa Y af;have ae:=κ aa;have ab:Hid (jt (λb=>(δ (ϊ ⟨w.heap.size,0,ϋ⟩) 0 0).ownBlock=ϊ b) (w.alloc (.cells #[] 209)) w2):=κ (jt.of_grown Y);clear aa Y af)
  go_ret;refine⟨⟨_,rfl,by simpa using ae.o⟩, ?_⟩;exact((jt.of_more (S:=λb=>b=w.heap.size) (ql.alloc w _)).trans (ab.o.mono λb G=>by injection G with e;exact e.symm)).to_more (ql.refl _) (λk e=>by rw[e];exact ϔ _)
def Bv {base d e m:Nat} (h:w.ownsRow base e n v m xs) (I:d<=base):w.ownsRow d e n v m xs:=by
 obtain⟨G,H⟩:=h;refine⟨G, ?_⟩;rcases H with h | ⟨g,cap,cur,e1,h3,h4⟩
 ·exact ϑ h
 ·exact ϕ ⟨g,cap,cur,e1,ϙ I h3,h4⟩
def WP {S:Nat->Prop} {base e m:Nat} (h:w.ownsRow base e n v m xs) (a:jt S w w') (H: ∀b,v.ownBlock=ϊ b-> ¬S b):w'.ownsRow base e n v m xs:=by
 obtain⟨d,G⟩:=h;refine⟨d, ?_⟩;rcases G with h | ⟨g,cap,cur,e1,h3,h4,h5⟩
 ·exact ϑ h
 ·exact ϕ ⟨g,cap,cur,e1,h3,a.blk h4 (H g (by rw[e1];rfl)),h5⟩
def zl (w0 w:World) (v:Value) (W:List (Int×List Int)) (j:Nat):Prop:=
 ∃xs,w.ownsRow w0.heap.size 209 2 v W.length xs/\ ∀i (hi:i<W.length),∃u,xs[i* 2]? =ϊ (.int .i64 (W[i].1))/\xs[i* 2+1]? =ϊ u/\
  (∀w',jt (λk=>v.ownBlock=ϊ k) w w'->SlI .u8 w' u (W[i].2))/\(Byt (W[i].2)/\W[i].2.length<=200)/\(i<j->(∀b,u.ownBlock=ϊ b->w0.heap.size<=b/\b<w.heap.size/\v.ownBlock≠ϊ b)/\w.ownsRow w0.heap.size 5 1 u (W[i].2).length ((W[i].2).map (Value.int .u8)))
def zl.start {H:World} {D:Nat->Prop} (h:je 2 ROu D w H.heap.size 209 v W):zl H w v W 0:=by
 obtain⟨⟨xs,o,r⟩,_⟩:=h;refine⟨xs,o,λi hi=> ?_⟩;obtain⟨u,e,_,I,N⟩:=(r i hi).read;have e0:=Γ (λl:List Value=>l[0]?) e;have G:=Γ (λl:List Value=>l[1]?) e;simp at e0 G;refine⟨u,e0,G,λw' a=> ?_,⟨I,N⟩,λh=>ϧ h τ⟩;obtain⟨U,d,O,_⟩:=(r i hi) w' (a.mono λk J=>ϕ J);rw[e] at d;simp at d;rw[d];exact O
def zl.more {H:World} (h:zl H w v W j) (m:ql w w'):zl H w' v W j:=by
 obtain⟨xs,o,r⟩:=h;refine⟨xs,zI o (S:=λ_=>False) (jt.of_more m) (λ_ _ h=>h),λi hi=> ?_⟩;obtain⟨u,I,J,N,O,d⟩:=r i hi;exact⟨u,I,J,λw'' a=>N w'' ((jt.of_more m).trans a),O,λh=>⟨λb G=>⟨((d h).1 b G).1,ϗ ((d h).1 b G).2.1 m.size,((d h).1 b G).2.2⟩,zI (d h).2 (S:=λ_=>False) (jt.of_more m) (λ_ _ h=>h)⟩⟩
def zl.shape {G:World} (h:zl G w v W j): ∃oa cap,v= δ oa W.length cap:=by
 obtain⟨xs,o,_⟩:=h;rcases o.2 with ⟨rfl,d⟩ | ⟨g,cap,cur,rfl,_⟩
 ·exact⟨ϋ,0,by rw[d]⟩
 ·exact⟨_,cap,rfl⟩
def zl.at {I:World} {H:Option Addr} {cap:Nat} (h:zl I w (δ H n cap) W j) (Y:n=W.length) (i:Nat) (hi:i<W.length):
  ∃g,H=ϊ ⟨g,0,ϋ⟩/\I.heap.size<=g/\g<w.heap.size/\ ∃u,w.cell? ⟨g,i* 2,ϋ⟩=ϊ (ι (W[i].1))/\w.cell? ⟨g,i* 2+1,ϋ⟩=ϊ u/\w.frozen? ⟨g,i* 2+1,ϋ⟩=ύ/\SlI .u8 w u (W[i].2)/\Byt (W[i].2)/\W[i].2.length<=200:=by
 subst Y;obtain⟨xs,o,r⟩:=h;obtain⟨g,rfl,d,G⟩: ∃g,H=ϊ ⟨g,0,ϋ⟩/\I.heap.size<=g/\g<w.heap.size:=by
  rcases o.2 with ⟨_,aa⟩ | ⟨g,c,cur,e,d,G,_⟩
  ·omega
  ·injection e with e1
   exact⟨g,e1,d,lt_of_block G⟩
 obtain⟨u,J,N,O,U,_⟩:=r i hi;exact⟨g,rfl,d,G,u,by rw[o.cellAt _ τ];exact J,by rw[o.cellAt _ τ];exact N,o.frozenAt _,O w (jt.refl _ _),U⟩
def zl.put {J w1:World} {g cap:Nat} (h:zl J w (δ (ϊ ⟨g,0,ϋ⟩) n cap) W j) (ad:n=W.length) (ak:j<W.length) (m:ql w w1) (aj:g<w.heap.size) (O:J.heap.size<=w.heap.size) {u:Value}
  (G:w1.ownsRow w.heap.size 5 1 u (W[j].2).length ((W[j].2).map (Value.int .u8))):zl J (w1.setCell ⟨g,j* 2+1,ϋ⟩ u) (δ (ϊ ⟨g,0,ϋ⟩) n cap) W (j+1):=by
 subst ad;obtain⟨xs,o,r⟩:=h.more m;obtain⟨os,ae⟩:=o.stored (j* 2+1) u;have a:jt (λk=>ϊ g=ϊ k) w1 (w1.setCell ⟨g,j* 2+1,ϋ⟩ u):=jt.of_grown ae;have aa:(w1.setCell ⟨g,j* 2+1,ϋ⟩ u).heap.size=w1.heap.size:=by simp
 refine⟨_,os,λi hi=> ?_⟩;obtain⟨ai,U,ab,ac,Y,I⟩:=r i hi;have am:xs.length=W.length* 2:=o.1;by_cases e:i=j
 ·subst e;refine⟨u,by rw[J5 τ];exact U,by rw[T1 τ],λw' a'=> ?_,Y,λ_=>⟨λb d=>⟨ϙ O (vV G d),by rw[aa];exact Vg G d,λH=> ?_⟩,Bv (zI G a (λb d e=> ?_)) O⟩⟩
  ·exact(SlI.of_owns G τ).off (D:=λk=>ϊ g=ϊ k) (λb d H=>by have:=vV G d;have N:g=b:=I8 H;omega) (a.trans a')
  ·have:=vV G d;have N:g=b:=I8 H;omega
  ·have N:g=b:=I8 e;omega
 ·refine⟨ai,by rw[J5 τ];exact U,by rw[J5 τ];exact ab,λw' a'=>ac w' (a.trans a'),Y,λal=>⟨λb d=> ?_,WP (I τ).2 a (λb d e=>((I τ).1 b d).2.2 e)⟩⟩;obtain⟨af,ag,ah⟩:=(I τ).1 b d;exact⟨af,by rw[aa];exact ag,ah⟩
def ROn (base:Nat):qL (Int×List Int):=λw cs o=> ∃v,cs=[.int .i64 o.1,v]/\SlI .u8 w v o.2/\Byt o.2/\o.2.length<=200/\(∀b,v.ownBlock=ϊ b->base<=b)/\w.ownsRow base 5 1 v o.2.length (o.2.map (Value.int .u8))
def zl.done {I:World} (h:zl I w v W W.length):je 2 (ROn I.heap.size) (λb=>b<I.heap.size) w I.heap.size 209 v W:=by
 obtain⟨xs,o,r⟩:=h;refine⟨⟨xs,o,λi hi=> ?_⟩,λb G ad=>by have:=vV o G;omega⟩;obtain⟨u,O,U,Y,N,H⟩:=r i hi;have aa:(xs.drop (i* 2)).take 2=[ι (W[i].1),u]:=by
  apply M3;intro k
  match k with
  | 0=>simpa using O
  | 1=>simpa using U
  | k+2=>
   rw[J3 (by rw[Ϥ];omega),J3 η]
 intro w' a;refine⟨u,aa, ?_,N.1,N.2,λb G=>((H hi).1 b G).1,WP (H hi).2 a (λb G d=> ?_)⟩
 ·refine(Y w (jt.refl _ _)).off (λb G d=> ?_) a;obtain⟨ab,ac,J⟩:=(H hi).1 b G;rcases d with d | d
  ·omega
  ·exact J d
 ·obtain⟨ab,ac,J⟩:=(H hi).1 b G;rcases d with d | d
  ·omega
  ·exact J d
def Ug (h:LnX N w k vo s) (ab:s.W.length<=1000000):Calls prog 153 #[γ k.L] w λe w'=>(∃v,e= .returned v/\je 2 (ROn w.heap.size) (λb=>b<w.heap.size) w' w.heap.size 209 v s.W)/\ql w w':=by
 have az:w.cell? ⟨k.L,0,ϋ⟩=ϊ vo:=qa h.blk 0 rfl;have ah:=κ (qbA vo s.W w (h.o.sl ζ) ab);have aA:(s.W.length:Int)<=9223372036854775807:=by omega
 clear h ab
 go_enter func153,ntmps153
 go_wp2_with (go_at_call 196;(go_call ah.o as e w1 ⟨⟨aH,rfl,U⟩,af⟩;have am:=κ (zl.start U);have ak:=κ af;obtain⟨av,cap,rfl⟩:=(zl.start U).shape;clear U af))
 go_loopw [12] (λJ wr=> ∃j:Nat,j<=s.W.length/\J= ι j/\zl w wr (δ av s.W.length cap) s.W j/\ql w wr) (λJ _=>s.W.length-(intOf J).toNat)
 case atStart=>exact⟨0,τ,rfl,am.o,ak.o⟩
 case round=>
  obtain⟨j,aB,rfl,ae,ad⟩:=hrel;have d:=κ ae;have H:=κ ad;clear ae ad;by_cases hlt:j<s.W.length
  ·have aC:(j:Int)<(s.W.length:Int):=by omega
   obtain⟨g,rfl,ac,ap,u,ax,ay,aG,I,ao,ar⟩:=d.o.at rfl j hlt;have Y:=κ ap;have aj:=κ ac;have ai:=κ (wQ u _ wr I τ);have au:w.heap.size<=wr.heap.size:=H.o.size;obtain⟨aw,an,rfl,_⟩:=id I;clear I ao ar ac ax
   go_wp2_with (go_at_call 68;(go_call ai.o as e ag ⟨⟨v3,rfl,O⟩,G⟩;have al:=κ O;have aa:=κ G;have aF:ag.cell? ⟨g,j* 2+1,ϋ⟩=ϊ (δ aw (s.W[j].2).length an):=(by rw[G.cells _ _ Y.o];exact ay);have p2:ag.frozen? ⟨g,j* 2+1,ϋ⟩=ύ:=((d.o.more G).at rfl j hlt |>.elim λg' aq=>by obtain⟨e,_,_,_,_,_,f,_⟩:=aq;injection e with e;injection e with e;subst e;exact f);obtain⟨aE,c4,rfl⟩:=zA O;clear O G))
   go_roundw
   case rel=>exact⟨j+1,τ,by go_num,d.o.put rfl hlt aa.o Y.o au al.o,(H.o.trans aa.o).st aj.o _⟩
   case measure=>simp[intOf];omega
  ·obtain rfl:j=s.W.length:=by omega
   have aD: ¬(s.W.length:Int)<(s.W.length:Int):=by omega
   go_wp2;go_ret;exact⟨⟨_,rfl,d.o.done⟩,H.o⟩
section
variable {N:Nat->Prop} {w:World} {L:Nat} {s:LnS}
def JB (h:zw N w L s):Calls prog 61 #[γ L] w λe w'=>e= .returned (μ s.gone)/\ql w w':=by
 obtain⟨k,vo,rfl,x⟩:=h;exact gF x
def Iv (h:zw N w L s) (n:Int) (d:n=1∨n=2∨n=3):Calls prog 175 #[γ L,ι n] w λe w'=>e= .returned (μ (vC s n))/\ql w w':=by
 obtain⟨k,vo,rfl,x⟩:=h;rcases d with rfl | rfl | rfl
 ·exact YA x
 ·exact Yz x
 ·exact Jy x
def Xb (h:zw N w L s):Calls prog 120 #[γ L] w λe w'=>e= .returned (.tuple #[θ #[ι s.cur,ι s.tgt],s.wanted])/\ql w w':=by
 obtain⟨k,vo,rfl,x⟩:=h;exact AJ x
def Ed (h:zw N w L s) (n:Int):Calls prog 63 #[γ L,ι n] w λe w'=>e= .returned (ι (jO s n).2)/\zw (xf N w w') w' L (jO s n).1/\jt N w w':=by
 obtain⟨k,vo,rfl,x⟩:=h;refine(Ec x n).mono ?_;rintro e w' ⟨rfl,d,G⟩;exact⟨rfl,⟨k,vo,rfl,d⟩,G⟩
def Df (h:zw N w L s):Calls prog 193 #[γ L] w λe w'=>e= .returned (.tuple #[ι (jf s).2.1,ι (jf s).2.2.1,μ (jf s).2.2.2])/\zw (xf N w w') w' L (jf s).1/\jt N w w':=by
 obtain⟨k,vo,rfl,x⟩:=h;refine(De x).mono ?_;rintro e w' ⟨rfl,d,G⟩;exact⟨rfl,⟨k,vo,rfl,d⟩,G⟩
def Uv (h:zw N w L s):Calls prog 194 #[γ L] w λe w'=>e= .returned (.tuple #[ι (qY s).2.1,μ (qY s).2.2.1,μ (qY s).2.2.2])/\zw (xf N w w') w' L (qY s).1/\jt N w w':=by
 obtain⟨k,vo,rfl,x⟩:=h;refine(Uu x).mono ?_;rintro e w' ⟨rfl,d,G⟩;exact⟨rfl,⟨k,vo,rfl,d⟩,G⟩
def As (h:zw N w L s) (H:s.W.length<=1000000) (acc:Bool):Calls prog 177 #[γ L,acc] w λe w'=>e= .returned (.tuple #[ι (qX s acc).2.1,ι (qX s acc).2.2.1,μ (qX s acc).2.2.2])/\zw (xf N w w') w' L (qX s acc).1/\jt N w w':=by
 obtain⟨k,vo,rfl,x⟩:=h;refine(Ar x H acc).mono ?_;rintro e w' ⟨rfl,vo',d,G⟩;exact⟨rfl,⟨k,vo',rfl,d⟩,G⟩
def Ij (h:zw N w L s) (x:ItS) (os H I:Option Addr) (G ke d:Nat) (Y:PkS w (δ os x.pk.ss.length G) (δ H x.pk.ex.length ke) (δ I x.pk.pl.length d) x.pk) (U:uf x.pk) (aa:uj x.pk):
  Calls prog 192 #[γ L,(Γj x os G H ke I d)] w λe w'=>e= .returned (.tuple #[ι (xp s x).2.1,μ (xp s x).2.2.1,ι (xp s x).2.2.2])/\zw (xf N w w') w' L (xp s x).1/\jt N w w':=by
 obtain⟨k,vo,rfl,ab⟩:=h;refine(Ii ab x os H I G ke d Y U aa).mono ?_;rintro e w' ⟨rfl,J,O⟩;exact⟨rfl,⟨k,vo,rfl,J⟩,O⟩
def Uh (h:zw N w L s) (d:s.W.length<=1000000):Calls prog 153 #[γ L] w λe w'=>(∃v,e= .returned v/\je 2 (ROn w.heap.size) (λb=>b<w.heap.size) w' w.heap.size 209 v s.W)/\ql w w':=by
 obtain⟨k,vo,rfl,x⟩:=h;exact Ug x d
end
def LL (w:World):(zeroValue 24).run prog w= .ok (δ ϋ 0 0) w:=by kernel_rfl
def IU (w:World) (A i c:Nat) (v:Value) (d:w.cell? ⟨A,i,ϋ⟩=ϊ v) (G:w.frozen? ⟨A,i,ϋ⟩=ύ):
  (Builtin.clear_ #[234] 0 #[δ (ϊ ⟨A,i,ϋ⟩) 1 c]).run prog w= .ok (.tuple #[]) (w.setCell ⟨A,i,ϋ⟩ (δ ϋ 0 0)):=by
 have H:=LL w;unfold Builtin.clear_;simp[run_underlying underlying234,H,Value.cells,Builtin.zeroCells,storeCells,Addr.add,d,G,go_sem]
def VP: ∀(css:List (List Value)) (i:Nat) (z:Value),(∀c∈css,c.length=1)->css.flatten.set i z=(css.set i [z]).flatten
 | [],i,z,_=>by simp
 | c::css,0,z,h=>by
  obtain⟨x,rfl⟩:=N6.1 (h c η);simp
 | c::css,i+1,z,h=>by
  obtain⟨x,rfl⟩:=N6.1 (h c η);simp[VP css i z (λc d=>h c (by simp[d]))]
section
variable {w:World} {R A room first:Nat} {q:List (List Value)} {ci co cd cg:Int} {css:List (List Value)}
abbrev zR:=qN 1 238 24
def qN.cellY (h:zR w R A room first q ci co cd cg css) {i:Nat} (hi:i<room): ∃v,css.getD i []=[v]/\w.cell? ⟨A,i,ϋ⟩=ϊ v:=by
 have G:i<css.length:=by rw[h.len];exact hi
 have d:css.getD i []=css[i]:=by simp[G]
 obtain⟨v,H⟩:=N6.1 (h.cl css[i] (ϥ G));refine⟨v,by rw[d];exact H, ?_⟩;have:=h.range hi 0 v (by rw[d,H];rfl)
 simpa using this
def qN.setY (h:zR w R A room first q ci co cd cg css) (i:Nat) (z:Value):(w.setCell ⟨A,i,ϋ⟩ z).heap[A]? =ϊ (.cells (css.set i [z]).flatten.toArray 24 (0,0)):=by
 refine qB (qp h.row i z) ?_;rw[<-VP css i z h.cl];simp
def Ng (h:zR w R A room first q ci co cd cg css):
  Calls prog 173 #[γ R] w λe w'=>e= .returned (ι q.length)/\w'=w:=by
 have d:w.cell? ⟨R,2,ϋ⟩=ϊ (ι q.length):=qa h.ring 2 rfl;clear h
 go_enter func173,ntmps173
 go_wp2;go_ret;exact⟨rfl,rfl⟩
def He (h:zR w R A room first q ci co cd cg css):
  Calls prog 108 #[γ R] w λe w'=>e= .returned (μ (decide (q.length=room)))/\ ∃k,w'=w.drewN k:=by
 have H:w.cell? ⟨R,0,ϋ⟩=ϊ (δ (ϊ ⟨A,0,ϋ⟩) room room):=qa h.ring 0 rfl;have I:w.cell? ⟨R,2,ϋ⟩=ϊ (ι q.length):=qa h.ring 2 rfl;have G:((q.length:Int)==(room:Int))=decide (q.length=room):=by by_cases e:q.length=room<;>simp[e];omega
 clear h
 go_enter func108,ntmps108
 go_wp2;refine wp_region_quiet_lit ξ ξ ?_
 repeat (go_big_quiet_step (fail))
 refine wpQuiet_nil ?_;intro _ d;obtain⟨nq,rfl⟩:=d;go_wp2;go_ret;exact⟨rfl,nq,rfl⟩
def BJ (m:Int) (d:m<1∨8<m) (w:World):
  Calls prog 90 #[ι m] w λe w'=>e= .returned (.tuple #[π ϋ,ι 1])/\ql w w':=by
 go_enter func90,ntmps90
 go_wp2
 all_goals (refine bodyPost_ret (v:= .tuple #[π ϋ,ι 1]) (by simp[results,results90,go_sem]) rfl ?_;exact⟨rfl,ρ⟩)
def mkY (n:Nat) (N:1<=n) (O:n<=8) (w:World):
  (Instr.makeSlice 234 (ι (n:Int)) (ι (n:Int))).run prog w= .ok (δ (ϊ ⟨w.heap.size,0,ϋ⟩) n n) (w.alloc (.cells (List.replicate n [δ ϋ 0 0]).flatten.toArray 24)):=by
 obtain⟨J,hi,G,H,I⟩:=info_parts (P:=prog) (e:=24) (z:= δ ϋ 0 0) (size:=1) (bytes:=24) ξ;have d:=run_make (P:=prog) w 234 24 J (δ ϋ 0 0) underlying234 hi G .i64 .i64 n n τ τ (by rw[I];omega) τ;rw[d];simp only[A5,H];rw[Yq _ 1 n rfl ζ];rfl
def ZK (m:Int) (n:Nat) (I:m=n) (d:1<=n) (G:n<=8) (w:World):
  Calls prog 90 #[ι m] w λe w'=>e= .returned (.tuple #[γ (w.heap.size+1),ι 0])/\zR w' (w.heap.size+1) w.heap.size n 0 [] 0 0 0 0 (List.replicate n [δ ϋ 0 0])/\ql w w':=by
 subst I;have J:1<=(n:Int):=by omega
 go_enter func90,ntmps90
 have N:=mkY n d G;go_wp2;refine bodyPost_ret (v:= .tuple #[γ (w.heap.size+1),ι 0]) (by simp[results,results90,go_sem]) rfl ?_;refine⟨rfl, ?_,ρ⟩;exact⟨qC η,qs (qB (qj _ _) (by have:(List.replicate n [δ ϋ 0 0]).flatten=List.replicate n (δ ϋ 0 0):=η;rw[this];simp)) _,τ,η,λc H=>by rw[I4 H];exact⟨rfl,by simp[Value.oneCell']⟩,⟨d,G⟩,τ,η,λi hi=>by simp at hi⟩
def DI (w:World) (R A room first:Nat) (ad:Option Addr) (af ae:Nat) (T:List (List Value)) (aa ab U Y:Int) (css:List (List Value)) (h:zR w R A room first ([δ ad af ae]::T) aa ab U Y css):
  Calls prog 109 #[γ R] w λe w'=>e= .returned (δ ad af ae)/\zR w' R A room ((first+1)%room) T aa ab U Y (css.set first [δ ϋ 0 0])/\jt (RgB R A) w w':=by
 have d:=κ h;have av:w.cell? ⟨R,0,ϋ⟩=ϊ (δ (ϊ ⟨A,0,ϋ⟩) room room):=qa h.ring 0 rfl;have aw:w.cell? ⟨R,1,ϋ⟩=ϊ (ι first):=qa h.ring 1 rfl;obtain⟨v,J,a0⟩:=h.cellY h.fst;rw[h.head] at J;injection J with J
 subst J;have ao:=h.fst;have ap:(first:Int)<(room:Int):=by omega
 have aq:0<=(first:Int):=by omega
 have ar:=h.pos.1;have au:=h.pos.2;have I:R<w.heap.size:=qn h.ring;have H:=h.ne;clear h
 go_enter func109,ntmps109
 go_wp2;refine wp_region_quiet_lit ξ ξ ?_
 repeat (go_big_quiet_step (fail))
 refine wpQuiet_nil ?_;intro _ ak;obtain⟨nq,rfl⟩:=ak
 go_wp2_with fail
 have N: ∀x:qz (λb=>b=A) w,x.w'.cell? ⟨R,0,ϋ⟩=ϊ (δ (ϊ ⟨A,0,ϋ⟩) room room):=λx=>x.cell I H (qa d.o.ring 0 rfl)
 have O: ∀x:qz (λb=>b=A) w,x.w'.cell? ⟨R,1,ϋ⟩=ϊ (ι first):=λx=>x.cell I H (qa d.o.ring 1 rfl)
 refine QN (λb=>b=A) w 15 15 [14] ?_
 refine Qq ?_
 refine jR rfl rfl ?_;intro K G;have aj:=IU (w.drewN (nq+1)) A first (room-first) _ a0 (yw d.o.row first)
 unfold jn;go_simp;refine⟨qi σ,G _ _ ?_⟩;clear G K aj N O;refine qA ?_
 go_wp2_with fail
 have N: ∀x:qz (λb=>b=A) w,x.w'.cell? ⟨R,0,ϋ⟩=ϊ (δ (ϊ ⟨A,0,ϋ⟩) room room):=λx=>x.cell I H (qa d.o.ring 0 rfl)
 have O: ∀x:qz (λb=>b=A) w,x.w'.cell? ⟨R,1,ϋ⟩=ϊ (ι first):=λx=>x.cell I H (qa d.o.ring 1 rfl)
 refine QN (λb=>b=A) w 14 15 [12,14] ?_
 refine Nz ?_
 (refine Ql ?_;intro K G)
 refine⟨qi σ,G _ _ ?_⟩;clear G K
 refine Qs1 ?_
 have ac: ¬A=R:=λe=>H e.symm
 have al:w.frozen? ⟨R,1,ϋ⟩=ύ:=yw d.o.ring 1;have am:w.frozen? ⟨R,2,ϋ⟩=ύ:=yw d.o.ring 2;have ax:w.cell? ⟨R,2,ϋ⟩=ϊ (ι (T.length+1)):=qa d.o.ring 2 (by simp[jV])
 (refine Qe ?_;intro K G)
 refine G _ _ ?_;clear G K;refine qA ?_;have an:(T.length:Int)<=8:=by have:=d.o.fits;simp at this;omega
 go_wp2;go_ret;refine⟨rfl, ?_,σ⟩;have ag:((first:Int)+1)%(room:Int)=(((first+1)%room:Nat):Int):=by rw[J0];rfl
 rw[ag];have ah:=qo (qb d.o.ring (nq+1)) ⟨A,first,ϋ⟩ (δ ϋ 0 0) H;have ai:=(d.o.more (ql.drewN w (nq+1))).setY first (δ ϋ 0 0)
 refine d.o.took ⟨rfl,by simp[Value.oneCell']⟩ (qB (qp (qp (qb ah 1) 1 _) 2 _) ?_) (qo (qo (qb ai 1) _ _ ac) _ _ ac);simp[jV]
def MY (w:World) (R A room first:Nat) (d:Option Addr) (H G:Nat) (T:List (List Value)) (N O I J:Int) (css:List (List Value)) (h:zR w R A room first ([δ d H G]::T) N O I J css):
  Calls prog 184 #[γ R] w λe w'=>e= .returned (.tuple #[δ d H G,ό])/\(∃co',zR w' R A room ((first+1)%room) T N co' I J (css.set first [δ ϋ 0 0]))/\jt (RgB R A) w w':=by
 have aa:=κ h;have ad:((([δ d H G]::T).length:Int)==0)=ύ:=by simp;omega
 have ae:w.cell? ⟨R,2,ϋ⟩=ϊ (ι ([δ d H G]::T).length):=qa h.ring 2 rfl;have af:w.cell? ⟨R,5,ϋ⟩=ϊ (ι O):=qa h.ring 5 rfl;have ac:w.frozen? ⟨R,5,ϋ⟩=ύ:=yw h.ring 5;clear h
 go_enter func184,ntmps184
 go_wp2_with (go_at_call 109;(go_call DI _ R A room first d H G T N _ I J css (aa.o.popped _) as e w5 ⟨rfl,U,a5⟩;have ab:=κ U;have Y:Hid (jt (RgB R A) w w5):=κ (((jt.refl _ _).set (ϑ rfl) _).trans a5);clear U a5))
 refine bodyPost_ret (v:= .tuple #[δ d H G,ό]) (by simp[results,results184,go_sem]) rfl ?_;exact⟨rfl,⟨_,ab.o⟩,Y.o⟩
end
def IL (w:World) (R A room first:Nat) (q:List (List Value)) (N O I J:Int) (css:List (List Value)) (h:zR w R A room first q N O I J css) (ao: ∀c∈q,∃G n cp,c=[δ G n cp]):
  Calls prog 180 #[γ R] w λe w'=> ∃v,e= .returned v/\w'.ownsRow w.heap.size 24 1 v q.length q.flatten/\(∃first' cg' css',zR w' R A room first' [] N O I cg' css')/\jt (RgB R A) w w':=by
 obtain⟨aJ,aK,aL,aM,aN⟩:=info_parts (P:=prog) (e:=24) (z:= δ ϋ 0 0) (size:=1) (bytes:=24) ξ;have aw:=κ h;have aR:R<w.heap.size:=qn h.ring;have aQ:A<w.heap.size:=qn h.row;have aW:w.cell? ⟨R,2,ϋ⟩=ϊ (ι q.length):=qa h.ring 2 rfl;have aU:(q.length:Int)<=8:=by have:=h.fits;have:=h.pos.2;omega
 have aC:=κ ao;clear h ao
 go_enter func180,ntmps180
 go_wp2
 go_loopw [3,8] (λu ag wr=> ∃(j f:Nat) (cs:List (List Value)),j<=q.length/\ag= ι j/\(∃ar aq ak,u= δ ar aq ak)/\wr.ownsRow w.heap.size 24 1 u j (q.take j).flatten/\zR wr R A room f (q.drop j) N O I J cs/\jt (RgB R A) w wr) (λ_ ag _=>q.length-(intOf ag).toNat)
 case atStart=>exact⟨0,first,css,τ,rfl,⟨_,_,_,rfl⟩,World.ownsRow_nil w _ _ _,aw.o,jt.refl _ _⟩
 case round=>
  obtain⟨j,f,cs,aS,rfl,⟨ar,aq,ak,rfl⟩,d,ap,am⟩:=hrel;have ah:=κ d;have H:=κ ap;have ab:=κ am;clear d ap am;by_cases hlt:j<q.length
  ·have ad:q.drop j=q[j]::q.drop (j+1):=D1 hlt;have af:q.take (j+1)=q.take j++[q[j]]:=by rw[B9,ϖ hlt];rfl
   obtain⟨G,aa,Y,an⟩:=aC.o q[j] (ϥ hlt);have aT:(j:Int)<(q.length:Int):=by omega
   rw[an] at ad af;have az:=κ (ad▸H.o);have aA:=κ af;clear ad af H an
   go_wp2_with (first | (go_at_call 109;(go_call DI wr R A room f G aa Y (q.drop (j+1)) N O I J cs az.o as e w5 ⟨rfl,al,a5⟩;have ax:=κ al;have au:=κ a5;have U:=κ (zI ah.o a5 (λb ac e=>by rcases e with e | e<;>omega));have aD:Hid (w.heap.size<=w5.heap.size):=κ (ϙ ab.o.size a5.size);clear al a5)) | (at_builtin;(refine wpList_append_own_at _ rfl (.tmp 10) (.tmp 13) 234 rfl w.heap.size 24 aJ (δ ϋ 0 0) 1 24 underlying234 aK aL aM aN rfl ζ _ j (q.take j).flatten rfl (zI U.o (jt.of_more X6) (λb _ e=>e)) ⟨w5.heap.size,0,ϋ⟩ 1 1 [δ G aa Y] rfl rfl (λi u aG=>by have:=xy (cs:=[δ G aa Y]) (t:=24) (qj w5 (.cells #[δ G aa Y] 24)) i u aG;rw[Addr.add_mid];exact this) X8 (by unfold maxLen;omega) τ (by have:=aD.o;simp;omega) ?_;intro aY w6 d ae aE aH;have aB:=κ d;have av:Hid (jt (RgB R A) w w6):=κ (((ab.o.trans au.o).alc _).grown ae (λb ac=>vV U.o ac));have ay:Hid (zR w6 R A room ((f+1)%room) (q.drop (j+1)) N O I J (cs.set f [δ ϋ 0 0])):=κ ((ax.o.more X6).away (jt.of_grown ae) (λe=>by have:=vV U.o e;omega) (λe=>by have:=vV U.o e;omega));obtain⟨aV,aO,rfl⟩:=zA d;clear d ae aE aH)))
   go_roundw
   case rel=>exact⟨j+1,(f+1)%room,_,τ,by go_num,⟨_,_,_,rfl⟩,by rw[aA.o,J7];simpa using aB.o,ay.o,av.o⟩
   case measure=>simp[intOf];omega
  ·obtain rfl:j=q.length:=by omega
   have aX:wr.cell? ⟨R,7,ϋ⟩=ϊ (ι J):=qa H.o.ring 7 rfl;have aP:wr.frozen? ⟨R,7,ϋ⟩=ύ:=yw H.o.ring 7;go_wp2;go_ret;have aI:q.drop q.length=[]:=by simp
   have aF:q.take q.length=q:=by simp
   have aj:=H.o;have ai:=ah.o;rw[aI] at aj;rw[aF] at ai;exact⟨_,rfl,zI ai ((jt.refl (λb=>b=R) _).set rfl _) (λb ac e=>by omega),⟨_,_,_,aj.drained _⟩,ab.o.set (ϑ rfl) _⟩
def UB (w:World) (R A room first:Nat) (q:List (List Value)) (J ac aa ab:Int) (css:List (List Value)) (h:zR w R A room first q J ac aa ab css) (az:q.length<room) (O:Option Addr) (Y U:Nat):
  Calls prog 67 #[γ R,δ O Y U] w λe w'=>e= .returned (.tuple #[δ ϋ 0 0,ύ,ι 0])/\(∃ci' cd',zR w' R A room first (q++[[δ O Y U]]) ci' ac cd' ab (css.set ((first+q.length)%room) [δ O Y U]))/\jt (RgB R A) w w':=by
 have ag:=κ h;have aB:w.cell? ⟨R,3,ϋ⟩=ϊ (μ ύ):=qa h.ring 3 rfl;have ay:decide (q.length=room)=ύ:=by simp;omega
 clear h
 go_enter func67,ntmps67
 go_wp2_with (go_at_call 108;(go_call He ag.o as e am ⟨rfl,aJ,aj⟩;rw[ay];have ae:Hid (ql w am):=κ (by rw[aj];exact ql.drewN _ _);clear aj))
 obtain⟨G,ad⟩: ∃G,G=am:=⟨_,rfl⟩;have d:Hid (zR G R A room first q J ac aa ab css):=κ (by rw[ad];exact ag.o.more ae.o);have af:Hid (jt (RgB R A) w G):=κ (by rw[ad];exact jt.of_more ae.o);have aA:q.length<room:=az;rw[<-ad];clear ad ae aB;obtain⟨f,ai⟩: ∃f,Hid (f=first):=⟨_,κ rfl⟩;obtain⟨cs,ah⟩: ∃cs,Hid (cs=css):=⟨_,κ rfl⟩;rw[<-ai.o,<-ah.o] at d;have ao: ∀x:qt G,x.w'.cell? ⟨R,0,ϋ⟩=ϊ (δ (ϊ ⟨A,0,ϋ⟩) room room):=λx=>x.cell (qn d.o.ring) (qa d.o.ring 0 rfl)
 have ap: ∀x:qt G,x.w'.cell? ⟨R,1,ϋ⟩=ϊ (ι f):=λx=>x.cell (qn d.o.ring) (qa d.o.ring 1 rfl)
 have aq: ∀x:qt G,x.w'.cell? ⟨R,2,ϋ⟩=ϊ (ι q.length):=λx=>x.cell (qn d.o.ring) (qa d.o.ring 2 rfl)
 have aG:((f:Int)+(q.length:Int))%(room:Int)=(((f+q.length)%room:Nat):Int):=by rw[J0];rfl
 have ax:(f+q.length)%room<room:=I2 _ τ;have hi:(((f+q.length)%room:Nat):Int)<(room:Int):=by omega
 have aH:=d.o.pos;have aE:=d.o.fst;have aF:(f:Int)<=8:=by omega
 have aI:(q.length:Int)<=8:=by omega
 obtain⟨v0,_,au⟩:=d.o.cellY ax;have av:G.frozen? ⟨A,(f+q.length)%room,ϋ⟩=ύ:=yw d.o.row _;generalize aw:(f+q.length)%room=I at *;refine Qn G 21 22 [21] ?_
 refine NA ?_
 (refine Qe ?_;intro K ak)
 refine ak _ _ ?_;clear ak K ao ap aq;refine qA ?_;obtain⟨W6,N⟩:=ν ((G.drewN 1).setCell ⟨A,I,ϋ⟩ (δ O Y U));have an:Hid (jt (RgB R A) w W6):=κ (by rw[<-N];exact(af.o.drewN 1).set (ϕ rfl) _);have H:Hid (W6.heap[R]? =ϊ (.cells (jV A room f q.length J ac aa ab) 238 (0,0))):=κ (by rw[<-N];exact qo (qb d.o.ring 1) _ _ d.o.ne);have ar:Hid (W6.heap[A]? =ϊ (.cells (cs.set I [δ O Y U]).flatten.toArray 24 (0,0))):=κ (by rw[<-N];exact(d.o.more (ql.drewN G 1)).setY I _)
 (try rw[N])
 clear N af au av;have aK:W6.cell? ⟨R,2,ϋ⟩=ϊ (ι q.length):=qa H.o 2 rfl;have aC:W6.frozen? ⟨R,2,ϋ⟩=ύ:=yw H.o 2;have aL:W6.cell? ⟨R,4,ϋ⟩=ϊ (ι J):=qa H.o 4 rfl;have aD:W6.frozen? ⟨R,4,ϋ⟩=ύ:=yw H.o 4;go_wp2;refine bodyPost_ret (v:= .tuple #[δ ϋ 0 0,ύ,ι 0]) (by simp[results,results67,go_sem]) rfl ?_;have al:R≠A:=d.o.ne;subst aw;obtain rfl:=ai.o;obtain rfl:=ah.o;refine⟨rfl,⟨wrap64 (J+1),aa,d.o.put aA ⟨rfl,by simp[Value.oneCell']⟩ ?_ ?_⟩,(an.o.set (ϑ rfl) _).set (ϑ rfl) _⟩
 ·exact qB (qp (qp H.o 2 _) 4 _) rfl
 ·exact qo (qo ar.o _ _ (C4 al)) _ _ (C4 al)
def UC (w:World) (R A room first:Nat) (N:Option Addr) (U O:Nat) (T:List (List Value)) (J ab H aa:Int) (css:List (List Value)) (h:zR w R A room first ([δ N U O]::T) J ab H aa css) (ai:([δ N U O]::T).length=room) (ad:Option Addr) (af ae:Nat):
  Calls prog 67 #[γ R,δ ad af ae] w λe w'=>e= .returned (.tuple #[δ N U O,ό,ι 0])/\(∃ci' cd',zR w' R A room ((first+1)%room) (T++[[δ ad af ae]]) ci' ab cd' aa ((css.set first [δ ϋ 0 0]).set ((((first+1)%room)+T.length)%room) [δ ad af ae]))/\jt (RgB R A) w w':=by
 have am:=κ h;have aI:w.cell? ⟨R,3,ϋ⟩=ϊ (μ ύ):=qa h.ring 3 rfl;have aG:decide (([δ N U O]::T).length=room)=ό:=by simp at ai ⊢;exact ai
 clear h
 go_enter func67,ntmps67
 go_wp2_with (first | (go_at_call 108;(go_call He am.o as e av ⟨rfl,aS,aq⟩;rw[aG];have aj:Hid (ql w av):=κ (by rw[aq];exact ql.drewN _ _);clear aq)) | (go_at_call 109;(go_call DI av R A room first N U O T J ab H aa css (am.o.more aj.o) as e w5 ⟨rfl,ag,a5⟩;have an:=κ ag;have ak:Hid (jt (RgB R A) w w5):=κ ((jt.of_more aj.o).trans a5);have aJ:w5.cell? ⟨R,6,ϋ⟩=ϊ (ι H):=qa ag.ring 6 rfl;have aD:w5.frozen? ⟨R,6,ϋ⟩=ύ:=yw ag.ring 6;clear ag a5)))
 obtain⟨G,ah⟩:=ν (w5.setCell ⟨R,6,ϋ⟩ (ι (wrap64 (H+1))));have d:Hid (zR G R A room ((first+1)%room) T J ab (wrap64 (H+1)) aa (css.set first [δ ϋ 0 0])):=κ (by rw[<-ah];exact an.o.dropped _);have al:Hid (jt (RgB R A) w G):=κ (by rw[<-ah];exact ak.o.set (ϑ rfl) _);have aH:T.length<room:=by simp at ai;omega
 (try rw[ah])
 clear ah aj an ak aJ aD aI ai;obtain⟨f,ap⟩: ∃f,Hid (f=((first+1)%room)):=⟨_,κ rfl⟩;obtain⟨cs,ao⟩: ∃cs,Hid (cs=(css.set first [δ ϋ 0 0])):=⟨_,κ rfl⟩;rw[<-ap.o,<-ao.o] at d;have ax: ∀x:qt G,x.w'.cell? ⟨R,0,ϋ⟩=ϊ (δ (ϊ ⟨A,0,ϋ⟩) room room):=λx=>x.cell (qn d.o.ring) (qa d.o.ring 0 rfl)
 have ay: ∀x:qt G,x.w'.cell? ⟨R,1,ϋ⟩=ϊ (ι f):=λx=>x.cell (qn d.o.ring) (qa d.o.ring 1 rfl)
 have az: ∀x:qt G,x.w'.cell? ⟨R,2,ϋ⟩=ϊ (ι T.length):=λx=>x.cell (qn d.o.ring) (qa d.o.ring 2 rfl)
 have aP:((f:Int)+(T.length:Int))%(room:Int)=(((f+T.length)%room:Nat):Int):=by rw[J0];rfl
 have aF:(f+T.length)%room<room:=I2 _ τ;have hi:(((f+T.length)%room:Nat):Int)<(room:Int):=by omega
 have aQ:=d.o.pos;have aM:=d.o.fst;have aN:(f:Int)<=8:=by omega
 have aO:0<=(f:Int):=by omega
 have aR:(T.length:Int)<=8:=by omega
 obtain⟨v0,_,aB⟩:=d.o.cellY aF;have aC:G.frozen? ⟨A,(f+T.length)%room,ϋ⟩=ύ:=yw d.o.row _;generalize aE:(f+T.length)%room=I at *;refine Qn G 21 22 [21] ?_
 refine NA ?_
 (refine Qe ?_;intro K ar)
 refine ar _ _ ?_;clear ar K ax ay az;refine qA ?_;obtain⟨W6,ac⟩:=ν ((G.drewN 1).setCell ⟨A,I,ϋ⟩ (δ ad af ae));have aw:Hid (jt (RgB R A) w W6):=κ (by rw[<-ac];exact(al.o.drewN 1).set (ϕ rfl) _);have Y:Hid (W6.heap[R]? =ϊ (.cells (jV A room f T.length J ab (wrap64 (H+1)) aa) 238 (0,0))):=κ (by rw[<-ac];exact qo (qb d.o.ring 1) _ _ d.o.ne);have aA:Hid (W6.heap[A]? =ϊ (.cells (cs.set I [δ ad af ae]).flatten.toArray 24 (0,0))):=κ (by rw[<-ac];exact(d.o.more (ql.drewN G 1)).setY I _)
 (try rw[ac])
 clear ac al aB aC;have aT:W6.cell? ⟨R,2,ϋ⟩=ϊ (ι T.length):=qa Y.o 2 rfl;have aK:W6.frozen? ⟨R,2,ϋ⟩=ύ:=yw Y.o 2;have aU:W6.cell? ⟨R,4,ϋ⟩=ϊ (ι J):=qa Y.o 4 rfl;have aL:W6.frozen? ⟨R,4,ϋ⟩=ύ:=yw Y.o 4;go_wp2;refine bodyPost_ret (v:= .tuple #[δ N U O,ό,ι 0]) (by simp[results,results67,go_sem]) rfl ?_;have au:R≠A:=d.o.ne;subst aE;obtain rfl:=ap.o;obtain rfl:=ao.o;refine⟨rfl,⟨wrap64 (J+1),wrap64 (H+1),d.o.put aH ⟨rfl,by simp[Value.oneCell']⟩ ?_ ?_⟩,(aw.o.set (ϑ rfl) _).set (ϑ rfl) _⟩
 ·exact qB (qp (qp Y.o 2 _) 4 _) rfl
 ·exact qo (qo aA.o _ _ (C4 au)) _ _ (C4 au)
section
open Go.RowKit Go.Lib
def aB:List Int:=[128,201,0,1,0,0,0,5,129,206,0,2,0,0,0,0,0,0,0,7,132,206,0,6,0,0,0,0,0,0,0,0,0,0,0,8,0,0,0,0,0,0,0,9,0,0,0,0,129,205,0,3,0,0,0,0,0,0,0,7,0,1,0,1,128,203,0,0]
end
end Go.Proofs.YtmgaiiffmheabaaGreatDoor
