/- x -/
import Derived.Test.YtlmllmonabafjaaGreatDoorMg4
import Derived.Test.YtlmllmonabafjaaGreatDoorMg6
import Derived.Outline
namespace Go.Proofs.YtlmllmonabafjaaGreatDoor
open Option renaming some->ϊ,none->ϋ
open Bool renaming true->ό,false->ύ
open Go.Value renaming bool->μ,slice->δ,pointer->π,agg->θ
open Go.IntKind renaming i64->ι,u8->υ,u16->φ,u32->ω,i32->χ,u64->ψ
open _root_.Go.Proofs.Tryz
set_option linter.all false
set_option maxHeartbeats 8000000
open Go.RowKit
set_option maxRecDepth 100000
variable {W:List (Int×List Int)} {w w':World} {v vo:Value} {Q:Exit->Act->World->Prop} {n j:Nat} {α:Type} {N:Nat->Prop} {s:LnS} {ops:Array Oper} {rest:List Oper} {xs:List Value} {P:Program} {k:LnB} {R:qO α} {o:Oper}
def uB {cs:Array Value} {t B:Nat} (d:B=w.heap.size): ∀j u,cs.toList[j]? =ϊ u->(w.alloc (.cells cs t)).cell? ⟨B,j,ϋ⟩=ϊ u:=by
 intro j u h;subst d;exact qi (qp w _) j (by simpa using h)
def Yv (s:LnS) (h:UL s) (acc:Bool) (w:World):Calls prog 176 #[θ #[ι s.most,ι s.row,s.gone],acc] w λe w'=>e= .returned (.tuple #[θ #[ι s.most,ι (jk s acc).1,μ (jk s acc).2.1],μ (jk s acc).2.2])/\qh w w':=by
 obtain⟨d,G,H,_,_⟩:=h;cases hg:s.gone with
 | true=>
  have e:jk s acc=(s.row,ό,ύ):=by unfold jk;rw[ϒ hg]
  rw[e];exact WI s.most s.row acc w
 | false=>
  cases acc with
  | true=>
   have e:jk s ό=(0,ύ,ύ):=by unfold jk;rw[ώ (by rw[hg];decide),ϒ rfl]
   rw[e];exact DI s.most s.row w
  | false=>
   have e:jk s ύ=(s.row+1,s.row+1==s.most,s.row+1==s.most):=by unfold jk;rw[ώ (by rw[hg];decide),ώ ζ]
   rw[e];exact EM s.most s.row τ τ _ _ rfl rfl w
def Kp (s:LnS) (h:UL s) (acc:Bool) (s':LnS) (e:s'.most=s.most/\s'.row=(jk s acc).1/\s'.gone=(jk s acc).2.1/\s'.rw=s.rw):UL s':=by
 obtain⟨N,O,J,U,Y⟩:=h;obtain⟨d,G,H,I⟩:=e;unfold jk at G H;refine⟨by rw[d];exact N, ?_, ?_,by rw[I];exact U,by rw[I];exact Y⟩
 ·rw[d,G];cases hg:s.gone with
  | true=>simpa using O
  | false=>
   have:=J hg;cases acc<;>simp<;>omega
 ·rw[d,G,H];cases hg:s.gone with
  | true=>simp
  | false=>
   have:=J hg;cases acc<;>simp<;>omega
section
variable {N:Nat->Prop} {w w':World} {k:LnB} {vo:Value} {s s':LnS}
def ZV (h:LnX N w k vo s) (acc:Bool) (G:zQ s 3=ύ):Calls prog 121 #[γ k.L,acc] w λe w'=>e= .returned (.tuple #[ι 0,ι 0,ύ])/\qh w w':=by
 have d:=Xy h;rw[G] at d;have d:=κ d;clear G h
 go_enter func121,ntmps121
 go_wp2_with (go_at_call 74;(go_call d.o as e w1 ⟨rfl,H⟩;have I:=κ H;clear H))
 refine bodyPost_ret (v:= .tuple #[ι 0,ι 0,ύ]) (by simp[results,results121,go_sem]) rfl ?_;exact⟨rfl,I.o⟩
def VA (h:LnX N w k vo s) (bh:s.W.length<=1000000) (o:Int×List Int) (T:List (Int×List Int)) (aC:s.C=o::T) (af:Int) (g':Bool) (aD:jk s ό=(af,g',ύ)):
  Calls prog 121 #[γ k.L,ό] w λe w'=>e= .returned (.tuple #[ι o.1,ι 1,ό])/\ ∃vo',LnX (xy N w w') w' k vo' {s with C:=T,W:=s.W++[o],row:=af,gone:=g'}/\qk N w w':=by
 have I:=κ h;have bE:=κ bh;have ah:=Xy h;have bk:zQ s 3=ό:=by
  show decide (0<s.C.length)=ό;rw[aC];simp
 rw[bk] at ah;have ah:=κ ah;obtain⟨be,cD,aV,aW,aT,aU,aX,ai,aA⟩:=h.r3;rw[aC] at aA;obtain⟨c,q,rfl,aB,aP⟩:=aA.uncons;have AQ:=κ aP;have bu:=κ aB;obtain⟨v0,rfl,⟨Y,U,rfl,bW⟩,bX,bY⟩:=aB.read;have bz:=κ ai;have cy:k.R3<w.heap.size:=qq ai.ring;have cu:k.A3<w.heap.size:=qq ai.row;have aK:=κ h.dist;have aF:=Yv s h.ok ό;have bl:=Kp s h.ok ό {s with C:=T,W:=s.W++[o],row:=af,gone:=g'} (by rw[aD];exact⟨rfl,rfl,rfl,rfl⟩);rw[aD] at aF;have bB:=κ aF;have bC:=κ bl;clear aF bl aD;clear h bk ai aB aP aA bh aC bW bX bY
 go_enter func121,ntmps121
 go_wp2_with (first | (go_at_call 74;(go_call ah.o as e w1 ⟨rfl,ao⟩;have bG:=κ ao;have aw:=κ (qj ao I.o.blk);have aL:=κ (bz.o.more ao);clear ao;have cv:k.L<w1.heap.size:=qq aw.o;have c3:w1.cell? ⟨k.L,3,ϋ⟩=ϊ (π (ϊ ⟨k.R3,0,ϋ⟩)):=qi aw.o 3 rfl)) | (go_at_call 174;(go_call LD w1 k.R3 k.A3 s.room be _ q aV aW aT aU aX aL.o as e w2 ⟨rfl,ap⟩;have az:Hid (qh w w2):=κ (bG.o.trans ap);have ax:=κ (qj ap aw.o);have bx:=κ (aL.o.more ap);clear ap;have cw:k.L<w2.heap.size:=qq ax.o;have c3:w2.cell? ⟨k.L,3,ϋ⟩=ϊ (π (ϊ ⟨k.R3,0,ϋ⟩)):=qi ax.o 3 rfl)) | (go_at_call 175;(go_call Rw (w2.alloc (.cells #[ι o.1,δ Y o.2.length U] 56)) k.R3 k.A3 s.room be _ q aV aW aT aU aX (bx.o.more Z0) as e H ⟨rfl,⟨cp,bf⟩,a3⟩;have bA:=κ bf;have A3:Hid (qk (RgB k.R3 k.A3) w H):=κ (((qk.of_more az.o).alc _).trans a3);have aJ:Hid (H.heap[k.L]? =ϊ (.cells (j9 k vo s) 153 (0,0))):=κ (a3.blk (qv ax.o _) (by obtain⟨⟨aY,aZ,ba,bb,bc,bd⟩,_⟩:=aK.o;rintro(e | e)<;>omega));have aN:Hid (H.heap[w2.heap.size]? =ϊ (.cells #[ι o.1,δ Y o.2.length U] 56 (0,0))):=κ (a3.blk (qp w2 _) (by have:=az.o.size;rintro(e | e)<;>omega));clear bf a3)))
 have am: ∀b,vo.ownBlock=ϊ b->N b/\ ¬k.muts b:=λb d=>I.o.vob d
 have bo: ∀b,vo.ownBlock=ϊ b->b<w.heap.size:=λb d=>I.o.own b (am b d).1
 have z3:w.heap.size<=H.heap.size:=A3.o.size;have cG:w.heap.size<=w2.heap.size:=az.o.size;have bp: ¬vo.ownBlock=ϊ k.L:=λe=>(am _ e).2 (ϐ rfl)
 have br: ¬vo.ownBlock=ϊ w2.heap.size:=λe=>by have:=bo _ e;omega
 have bD:=κ am;clear am bo;obtain⟨cf,hi,ca,cb,cc⟩:=info_parts (P:=prog) (e:=56) (z:= Γs) (size:=2) (bytes:=32) ξ;have bF:=λ(x:qC (λb=>vo.ownBlock=ϊ b) H)=>β0 (x.h.blk aJ.o bp)
 have aM: ∀x:qC (λb=>vo.ownBlock=ϊ b) H,x.w'.rangeAt w2.heap.size 0 [ι o.1,δ Y o.2.length U]:=λx=>jQ (x.h.blk aN.o br)
 refine QN (λb=>vo.ownBlock=ϊ b) H 12 13 [7,8,9,10,12] ?_
 refine Qs6 ?_
 refine jg rfl rfl (qn σ) 56 (.tmp 7) rfl w2.heap.size 0 rfl [ι o.1,δ Y o.2.length U] _ (λw' an=>by obtain⟨x,rfl⟩:=an;exact aM x) underlying56 rfl ξ ?_;intro K G;go_simp;refine G _ ?_;clear G K bF aM
 (refine Ql ?_;intro K G)
 refine⟨qn (((qk.refl _ H).drewN 1).alc _),G _ _ ?_⟩;clear G K;have ar:Hid (qk (RgB k.R3 k.A3) w ((H.drewN 1).alloc (.cells #[ι o.1,δ Y o.2.length U] 56))):=κ ((A3.o.drewN 1).alc _);have al: ∀b,RgB k.R3 k.A3 b->k.muts b:=λb d=>ϓ (ϓ (ϓ d))
 have bt:=(I.o.o.step (ar.o.mono λb d _=>al b d)).widen (D':=λb=>(N b∨w.heap.size<=b)->k.muts b) (λb d=>ϐ λJ=>d (ϐ J));have bs:jv ROu (λb=>((N b∨w.heap.size<=b)->k.muts b)∨vo.ownBlock=ϊ b) ((H.drewN 1).alloc (.cells #[ι o.1,δ Y o.2.length U] 56)) [ι o.1,δ Y o.2.length U] o:=(bu.o.step (ar.o.mono λb d=>uD (al b d))).other λb d=>by
  rcases d with e | e
  ·exact ϐ (ϐ λJ=>e (ϐ J))
  ·exact ϐ (ϓ e)
 refine jY rfl rfl ?_;intro K G
 refine ym (.tmp 35) (.tmp 37) 53 rfl 0 56 cf (Γs) 2 32 underlying53 hi ca cb cc rfl ζ vo s.W rfl bt H.heap.size [ι o.1,δ Y o.2.length U] o rfl rfl (uB rfl) Z5 bs (λb d=>by
  by_cases an:b<w.heap.size
  ·have:=ar.o.size;omega
  ·have:=I.o.own b (I.o.muts b (d (ϓ τ)));omega) ζ (by have:=bE.o;omega) (Ϻ _) ?_
 intro cE w6 aE bj bi;have bI:=κ aE;have bJ:=κ bi;have aa:Hid (qk (λb=>vo.ownBlock=ϊ b) H w6):=κ ((((qk.refl _ H).drewN 1).alc _).trans (qk.of_grown bj));have ay:=κ (aa.o.blk aJ.o bp);have bK:=κ (aa.o.blk aN.o br);obtain⟨ae,ac,ab,rfl,bT,bU⟩:=aE.shape;clear aE bj bi bt bs bT bU;have bM:w6.cell? ⟨k.L,0,ϋ⟩=ϊ vo:=qi ay.o 0 rfl;have bP:w6.frozen? ⟨k.L,0,ϋ⟩=ύ:=ql ay.o 0;refine⟨qn aa.o,G _ _ ?_⟩;clear G K;go_simp
 (refine Ql ?_;intro K G)
 refine⟨qn aa.o,G _ _ ?_⟩;clear G K
 (refine Ql ?_;intro K G)
 refine⟨qn aa.o,G _ _ ?_⟩;clear G K
 iterate 1 (refine qz rfl rfl (qn aa.o) ?_;intro K G;go_big_quiet_op;go_big_quiet_on)
 (refine Qe ?_;intro K G)
 refine G _ _ ?_;clear G K;refine qD ?_;obtain⟨W7,aj⟩:=ν (w6.setCell ⟨k.L,0,ϋ⟩ (δ ae ac ab));have aH:Hid (qk (λb=>b=k.L) w6 W7):=κ (by rw[<-aj];exact(qk.refl (λb=>b=k.L) w6).set (p:=⟨k.L,0,ϋ⟩) rfl _);have bq: ¬w2.heap.size=k.L:=by omega
 have ag:Hid (W7.heap[k.L]? =ϊ (.cells (j9 k (δ ae ac ab) s) 153 (0,0))):=κ (by rw[<-aj];exact qF (qt ay.o 0 _) rfl);have bL:=κ (aH.o.blk bK.o bq);rw[aj];clear aj bM bP;have aQ:W7.cell? ⟨k.L,13,ϋ⟩=ϊ (ι s.most):=qi ag.o 13 rfl;have aR:W7.cell? ⟨k.L,14,ϋ⟩=ϊ (ι s.row):=qi ag.o 14 rfl;have aS:W7.cell? ⟨k.L,15,ϋ⟩=ϊ (μ s.gone):=qi ag.o 15 rfl;have bq: ¬w2.heap.size=k.L:=by omega
 go_wp2_with (go_at_call 176;(go_call bB.o _ as e w8 ⟨rfl,aq⟩;have bH:=κ aq;have O:=κ (qj aq ag.o);have aO:=κ (qj aq bL.o);clear aq;have cx:k.L<w8.heap.size:=qq O.o;have cz:w2.heap.size<w8.heap.size:=qq aO.o;have cF:w8.cell? ⟨w2.heap.size,0,ϋ⟩=ϊ (ι o.1):=qi aO.o 0 rfl;have aQ:w8.cell? ⟨k.L,13,ϋ⟩=ϊ (ι s.most):=qi O.o 13 rfl;have aR:w8.cell? ⟨k.L,14,ϋ⟩=ϊ (ι s.row):=qi O.o 14 rfl;have aS:w8.cell? ⟨k.L,15,ϋ⟩=ϊ (μ s.gone):=qi O.o 15 rfl;have bQ:w8.frozen? ⟨k.L,13,ϋ⟩=ύ:=ql O.o 13;have bR:w8.frozen? ⟨k.L,14,ϋ⟩=ύ:=ql O.o 14;have bS:w8.frozen? ⟨k.L,15,ϋ⟩=ύ:=ql O.o 15))
 refine bodyPost_ret (v:= .tuple #[ι o.1,ι 1,ό]) (by simp[results,results121,go_sem]) rfl ?_;obtain⟨WF,ak⟩:=ν ((((w8.setCell ⟨k.L,13,ϋ⟩ (ι s.most)).setCell ⟨k.L,14,ϋ⟩ (ι af)).setCell ⟨k.L,15,ϋ⟩ (μ g')).alloc (.cells #[ι s.most,ι af,g'] 151));have bv:qk (λb=>b=k.L) w8 WF:=by rw[<-ak];exact((((qk.refl (λb=>b=k.L) w8).set (p:=⟨k.L,13,ϋ⟩) rfl _).set (p:=⟨k.L,14,ϋ⟩) rfl _).set (p:=⟨k.L,15,ϋ⟩) rfl _).alc _
 have bw:WF.heap[k.L]? =ϊ (.cells (j9 k (δ ae ac ab) {s with C:=T,W:=s.W++[o],row:=af,gone:=g'}) 153 (0,0)):=by rw[<-ak];exact qv (qF (qt (qt (qt O.o 13 _) 14 _) 15 _) rfl) _
 rw[ak];clear ak aQ aR aS bQ bR bS;have aI:qk (λb=>b=k.L) w6 WF:=(aH.o.more bH.o).trans bv;have aG:qk (λb=>b=k.L∨vo.ownBlock=ϊ b) H WF:=(aa.o.mono λb d=>ϓ d).trans (aI.mono λb d=>ϐ d);have av:qk (λb=>(b=k.L∨vo.ownBlock=ϊ b)∨RgB k.R3 k.A3 b) w WF:=(A3.o.mono λb d=>ϓ d).trans (aG.mono λb d=>ϐ d);obtain⟨⟨aY,aZ,ba,bb,bc,bd⟩,⟨cq,cr,ct,bN,bO⟩,⟨cA,cB,cd,ce⟩,⟨cC,cg,ch⟩,⟨ci,cj⟩,_⟩:=aK.o;have ad: ∀b,k.muts b-> ¬vo.ownBlock=ϊ b:=λb d e=>(bD.o _ e).2 d
 have au:qk (lnM k vo) w WF:=av.mono λb d=>by
  rcases d with (e | e) | e
  ·exact ϐ (ϐ e)
  ·exact ϓ e
  ·exact ϐ (al b e)
 have bn: ∀b,(δ ae ac ab).ownBlock=ϊ b->vo.ownBlock=ϊ b∨w.heap.size<=b:=λb d=>by
  rcases bJ.o with e | e
  ·exact ϐ (by rw[<-e];exact d)
  ·rw[d] at e;injection e with e
   subst e;exact ϓ (by have:=z3;simp;omega)
 have bg: ∀b,((b=k.L∨vo.ownBlock=ϊ b)∨RgB k.R3 k.A3 b)->lnE N k vo b:=λb d=>by
  rcases d with (e | e) | e
  ·exact uD (ϐ e)
  ·exact ϓ e
  ·exact uD (al b e)
 have bm: ∀b,lnE (xy N w WF) k (δ ae ac ab) b->lnE N k vo b∨WF.heap.size<=b:=λb d=>ϐ (xT I.o.own bn d)
 have bV:jd 2 ROu (lnD (xy N w WF) k) WF 0 56 (δ ae ac ab) (s.W++[o]):=(bI.o.step (aI.mono λb d _=>ϐ d)).widen λb d=>by
  by_cases an:b<WF.heap.size
  ·refine ϐ λJ=>d ?_
   rcases J with J | J
   ·exact ϐ J
   ·exact ϓ ⟨J,an⟩
  ·exact ϓ τ
 have ck: ¬k.R1=k.L:=C6 aY;have n2: ¬k.A1=k.L:=C6 aZ;have cl: ¬k.R2=k.L:=C6 ba;have cm: ¬k.A2=k.L:=C6 bb;have cn: ¬k.R3=k.L:=C6 bc;have co: ¬k.A3=k.L:=C6 bd;refine⟨rfl,_,I.o.make au.size bw (I.o.r1.step av ?_ ?_ bg bm) (I.o.r2.step av ?_ ?_ bg bm) ⟨_,_,_,_,_,_,_,bA.o.away aG ?_ ?_,AQ.o.mono λc y bZ=>I.o.held bZ au bn⟩ bV bC.o,au.mono λb d=>I.o.inN d⟩
 ·rintro((e | e) | (e | e));exact ck e;exact ad _ (ϓ (ϐ (ϐ rfl))) e;exact bN e;exact bO e
 ·rintro((e | e) | (e | e));exact n2 e;exact ad _ (ϓ (ϐ (ϓ rfl))) e;exact cd e;exact ce e
 ·rintro((e | e) | (e | e));exact cl e;exact ad _ (ϓ (ϓ (ϐ (ϐ rfl)))) e;exact cg e;exact ch e
 ·rintro((e | e) | (e | e));exact cm e;exact ad _ (ϓ (ϓ (ϐ (ϓ rfl)))) e;exact ci e;exact cj e
 ·rintro(e | e);exact cn e;exact ad _ (ϓ (ϓ (ϓ (ϐ rfl)))) e
 ·rintro(e | e);exact co e;exact ad _ (ϓ (ϓ (ϓ (ϓ rfl)))) e
def Bj (s:LnS) (j:Nat):LnS:={s with A:=if 1<j then [] else s.A,B:=if 2<j then [] else s.B,C:=if 3<j then [] else s.C}
def Am (s:LnS) (j:Nat) (h:1<=j/\j<=3):kz (Bj s j) j=Bj s (j+1):=by
 obtain⟨d,G⟩:=h
 match j,d,G with
 | 1,_,_=>rfl
 | 2,_,_=>rfl
 | 3,_,_=>rfl
def gk (h:LnX N w k vo s) (bc:s.W.length<=1000000) (o:Int×List Int) (T:List (Int×List Int)) (am:s.C=o::T) (H:Int) (g':Bool) (z:Bool) (an:jk s ύ=(H,g',z)):
  Calls prog 121 #[γ k.L,ύ] w λe w'=>e= .returned (.tuple #[ι o.1,ι (if z then 7 else 0),ό])/\LnX (xy N w w') w' k vo (if z then Bj {s with row:=H,gone:=g'} 4 else {s with row:=H,gone:=g'})/\qk N w w':=by
 have G:=κ h;have Y:=Xy h;have aE:zQ s 3=ό:=by
  show decide (0<s.C.length)=ό;rw[am];simp
 rw[aE] at Y;have Y:=κ Y;obtain⟨aY,bs,aV,aW,aT,aU,aX,aC,aj⟩:=h.r3;rw[am] at aj;obtain⟨c,q,rfl,ak,aS⟩:=aj.uncons;have bk:=κ ak;obtain⟨v0,rfl,⟨aH,aB,rfl,bf⟩,bg,bh⟩:=ak.read;have aJ:=κ aC;have ao:=Yv s h.ok ύ;have aF:=Kp s h.ok ύ {s with row:=H,gone:=g'} (by rw[an];exact⟨rfl,rfl,rfl,rfl⟩);rw[an] at ao;have aL:=κ ao;have av:=κ aF;clear ao aF an;clear h aE aC ak aS aj bc am bf bg bh
 go_enter func121,ntmps121
 cases z
 all_goals
  go_wp2_with (first | (go_at_call 74;(go_call Y.o as e w1 ⟨rfl,ad⟩;have aO:=κ ad;have ah:=κ (qj ad G.o.blk);have au:=κ (aJ.o.more ad);clear ad;have bm:k.L<w1.heap.size:=qq ah.o;have c3:w1.cell? ⟨k.L,3,ϋ⟩=ϊ (π (ϊ ⟨k.R3,0,ϋ⟩)):=qi ah.o 3 rfl)) | (go_at_call 174;(go_call LD w1 k.R3 k.A3 s.room aY _ q aV aW aT aU aX au.o as e w2 ⟨rfl,ae⟩;have ax:Hid (qh w w2):=κ (aO.o.trans ae);have I:=κ (qj ae ah.o);have bl:=κ (au.o.more ae);clear ae;have bn:k.L<w2.heap.size:=qq I.o;have c3:w2.cell? ⟨k.L,3,ϋ⟩=ϊ (π (ϊ ⟨k.R3,0,ϋ⟩)):=qi I.o 3 rfl;have ay:w2.cell? ⟨k.L,13,ϋ⟩=ϊ (ι s.most):=qi I.o 13 rfl;have az:w2.cell? ⟨k.L,14,ϋ⟩=ϊ (ι s.row):=qi I.o 14 rfl;have aA:w2.cell? ⟨k.L,15,ϋ⟩=ϊ (μ s.gone):=qi I.o 15 rfl)) | (go_at_call 176;(go_call aL.o (w2.alloc (.cells #[ι o.1,δ aH o.2.length aB] 56)) as e w8 ⟨rfl,af⟩;have aP:Hid (qh w w8):=κ ((ax.o.al _).trans af);have d:=κ (qj af (qv I.o _));have aa:=κ (qj af (qp w2 (.cells #[ι o.1,δ aH o.2.length aB] 56)));clear af;have bo:k.L<w8.heap.size:=qq d.o;have bp:w2.heap.size<w8.heap.size:=qq aa.o;have bt:w.heap.size<=w2.heap.size:=ax.o.size;have bj: ¬w2.heap.size=k.L:=τ;have aI:w8.cell? ⟨w2.heap.size,0,ϋ⟩=ϊ (ι o.1):=qi aa.o 0 rfl;have ay:w8.cell? ⟨k.L,13,ϋ⟩=ϊ (ι s.most):=qi d.o 13 rfl;have az:w8.cell? ⟨k.L,14,ϋ⟩=ϊ (ι s.row):=qi d.o 14 rfl;have aA:w8.cell? ⟨k.L,15,ϋ⟩=ϊ (μ s.gone):=qi d.o 15 rfl;have aZ:w8.frozen? ⟨k.L,13,ϋ⟩=ύ:=ql d.o 13;have ba:w8.frozen? ⟨k.L,14,ϋ⟩=ύ:=ql d.o 14;have bb:w8.frozen? ⟨k.L,15,ϋ⟩=ύ:=ql d.o 15)))
  obtain⟨WF,ab⟩:=ν ((((w8.setCell ⟨k.L,13,ϋ⟩ (ι s.most)).setCell ⟨k.L,14,ϋ⟩ (ι H)).setCell ⟨k.L,15,ϋ⟩ (μ g')).alloc (.cells #[ι s.most,ι H,g'] 151));have ag:qk (λb=>b=k.L) w8 WF:=by rw[<-ab];exact((((qk.refl (λb=>b=k.L) w8).set (p:=⟨k.L,13,ϋ⟩) rfl _).set (p:=⟨k.L,14,ϋ⟩) rfl _).set (p:=⟨k.L,15,ϋ⟩) rfl _).alc _
  have ai:WF.heap[k.L]? =ϊ (.cells (j9 k vo {s with row:=H,gone:=g'}) 153 (0,0)):=by rw[<-ab];exact qv (qF (qt (qt (qt d.o 13 _) 14 _) 15 _) rfl) _
  rw[ab];clear ab ay az aA aZ ba bb;have J:qk (λb=>b=k.L) w WF:=(qk.of_more aP.o).trans ag
 ·refine bodyPost_ret (v:= .tuple #[ι o.1,ι 0,ό]) (by simp[results,results121,go_sem]) rfl ?_;exact⟨rfl,G.o.setL J ai ⟨rfl,rfl,rfl,rfl,rfl⟩ av.o,J.mono λb O=>by rw[O];exact G.o.muts _ (ϐ rfl)⟩
 ·have aN:=κ (G.o.setL J ai ⟨rfl,rfl,rfl,rfl,rfl⟩ av.o);have aq:=κ J;have aQ:=κ (ag.blk aa.o bj);have be: ¬k.muts w2.heap.size:=λe=>by have:=G.o.own _ (G.o.muts _ e);omega
  clear J ag ai d aa aI
  go_loopw [12] (λt wr=> ∃j:Nat,1<=j/\j<=4/\t= ι j/\LnX (xy N w wr) wr k vo (Bj {s with row:=H,gone:=g'} j)/\qk k.muts WF wr) (λt _=>4-(intOf t).toNat)
  case atStart=>exact⟨1,τ,τ,rfl,aN.o,qk.refl _ _⟩
  case round=>
   obtain⟨j,bd,bq,rfl,aD,ac⟩:=hrel;have aw:=κ aD;have ar:=κ ac;have bi:Hid (w.heap.size<=wr.heap.size):=κ (ϙ aq.o.size ac.size);have aR:=κ (ac.blk aQ.o be);have aI:wr.cell? ⟨w2.heap.size,0,ϋ⟩=ϊ (ι o.1):=qi aR.o 0 rfl;clear aD ac;by_cases hlt:j<=3
   ·have br:(j:Int)<=3:=by omega
    have aG:(j:Int)=1∨(j:Int)=2∨(j:Int)=3:=by omega
    have aK:=κ (FD aw.o j aG);clear aG
    go_wp2_with (go_at_call 126;(go_call aK.o as e w9 ⟨⟨v9,rfl⟩,U,a9⟩;have aM:=κ U;have ap:=κ a9;clear U a9))
    go_roundw
    case rel=>
     have U:=aM.o;rw[Gq bi.o ap.o.size,Am _ j ⟨bd,hlt⟩] at U;exact⟨j+1,τ,τ,by go_num,U,ar.o.trans ap.o⟩
    case measure=>simp[intOf];omega
   ·obtain rfl:j=4:=by omega
    go_wp2;refine bodyPost_ret (v:= .tuple #[ι o.1,ι 7,ό]) (by simp[results,results121,go_sem]) rfl ?_;exact⟨rfl,aw.o,(aq.o.mono λb O=>by rw[O];exact G.o.muts _ (ϐ rfl)).trans (ar.o.mono λb O=>G.o.muts b O)⟩
def Cu (h:LnX N w k vo s) (I:s.W.length<=1000000) (acc:Bool):Calls prog 121 #[γ k.L,acc] w λe w'=>e= .returned (.tuple #[ι (qJ s acc).2.1,ι (qJ s acc).2.2.1,μ (qJ s acc).2.2.2])/\ ∃vo',LnX (xy N w w') w' k vo' (qJ s acc).1/\qk N w w':=by
 cases hC:s.C with
 | nil=>
  have e:qJ s acc=(s,0,0,ύ):=by unfold qJ;rw[hC]
  rw[e];refine(ZV h acc (by show decide (0<s.C.length)=ύ;rw[hC];rfl)).mono ?_;rintro e w' ⟨rfl,m⟩;exact⟨rfl,vo,h.grow m,qk.of_more m⟩
 | cons o T=>
  rcases ho:jk s acc with ⟨d,g',b⟩
  cases b with
  | true=>
   have J:acc=ύ:=by
    cases acc with
    | false=>rfl
    | true=>
     unfold jk at ho;split at ho<;>simp at ho
   subst J;have e:qJ s ύ=(Bj {s with row:=d,gone:=g'} 4,o.1,7,ό):=by unfold qJ;rw[hC];simp only[ho];rfl
   rw[e];refine(gk h I o T hC d g' ό ho).mono ?_;rintro e w' ⟨rfl,G,H⟩;exact⟨rfl,vo,G,H⟩
  | false=>
   cases acc with
   | true=>
    have e:qJ s ό=({s with C:=T,W:=s.W++[o],row:=d,gone:=g'},o.1,1,ό):=by unfold qJ;rw[hC];simp only[ho];rfl
    rw[e];exact VA h I o T hC d g' ho
   | false=>
    have e:qJ s ύ=({s with row:=d,gone:=g'},o.1,0,ό):=by unfold qJ;rw[hC];simp only[ho];simp[hC]
    rw[e];refine(gk h I o T hC d g' ύ ho).mono ?_;rintro e w' ⟨rfl,G,H⟩;exact⟨rfl,vo,G,H⟩
end
def JO (d:α) (p:Nat->α->Prop): ∀m,(∀i,i<m-> ∃c,p i c)-> ∃l:List α,l.length=m/\ ∀i,i<m->p i (l.getD i d)
 | 0,_=>⟨[],rfl,λi hi=>ϧ hi τ⟩
 | m+1,h=>by
  obtain⟨l,G,I⟩:=JO d p m λi hi=>h i τ
  obtain⟨c,H⟩:=h m τ;refine⟨l++[c],by simp[G],λi hi=> ?_⟩;by_cases e:i<m
  ·have:=I i e;rw[ϑ] at this ⊢;rw[ϻ τ];exact this
  ·obtain rfl:i=m:=by omega
   rw[ϑ,ϯ τ,G]
   simpa using H
def JP: ∀(css:List (List Value)),(∀c∈css,c.length=n)->css.flatten.length=css.length* n
 | [],_=>by simp
 | c::css,h=>by
  rw[B3,Ϗ,JP css λd G=>h d (by simp[G]),h c η,Ϙ,C9];omega
def JQ: ∀(css:List (List Value)) (i j:Nat),(∀c∈css,c.length=n)->i<css.length->j<n->css.flatten[i* n+j]? =(css.getD i [])[j]?
 | [],_,_,_,h,_=>ϧ h η
 | c::css,0,j,hl,_,hj=>by
  have:=hl c η;rw[B3,M5,E9,ϻ τ];rfl
 | c::css,i+1,j,hl,hi,hj=>by
  have d:=hl c η;rw[B3,ϯ (by rw[d,C9];omega),d,show (i+1)* n+j-n=i* n+j by rw[C9];omega];exact JQ css i j (λG H=>hl G (by simp[H])) (by simpa using hi) hj
def Ψ9 {P:Prop} (h:P:=by
 have aD:L.length+M.length<=maxLen:=by
  have:=J7 (L.length+M.length) (show 0<bytes by omega);unfold maxLen;omega
 obtain⟨aY,cap,rfl,bc,aN,bd,be,aO⟩:=aM;obtain⟨⟨xs,ae,aK⟩,aZ⟩:=id aq;cases aY with
 | none=>
  have ah:cap=0:=aO rfl;subst ah;have aP:M=[]:=Ϥ τ;subst aP;refine wpList_append_own_none an s x t ap base e i n au hi v L.length xs U ae av ?_;exact h v w (by simpa using aq) ⟨rfl,rfl,rfl,ϕ _,λ_ _ _=>rfl⟩ (ϐ rfl)
 | some ad=>
  obtain⟨css,aJ,af⟩:=Ξa ([]:List Value) (λk cs=> ∀d:k<M.length,∃b H,ad=⟨b,H,ϋ⟩/\b<Y.heap.size/\cs.length=n/\(∀j,j<n->Y.cell? ⟨b,H+k* n+j,ϋ⟩=cs[j]?)/\R Y cs M[k]) M.length (λk d=>by
   obtain⟨b,H,cs,ay,aB,aa,aC,N⟩:=aN k d
   exact⟨cs,λ_=>⟨b,H,by injection ay,aB,aa,aC,N⟩⟩)
  have aw: ∀c∈css,c.length=n:=λc ac=>by
   obtain⟨k,d,rfl⟩:=ε.1 ac;obtain⟨_,_,_,_,aa,_⟩:=af k τ τ;rw[ϑ,ϖ d] at aa;exact aa
  have am:css.flatten.length=M.length* n:=by rw[Ξb css aw,aJ]
  have al: ∀k j,k<M.length->j<n->css.flatten[k* n+j]? =(css.getD k [])[j]? :=λk j d J=>Ξc css k j aw τ J
  refine wpList_append_own_at w an s x t ap base e i z n bytes au hi aW aS aG aX aj v L.length xs U ae ad M.length cap css.flatten av am ?_ ?_ aD aH aF ?_
  ·intro j u J;have aL:j<M.length* n:=by rw[<-am];exact(ϟ.1 J).1
   have ak:j/n<M.length:=by rw[T6 aj];exact aL
   have ar:j%n<n:=G6 _ aj;have aA:j/n* n+j%n=j:=by rw[X6];exact T2 j n
   obtain⟨b,H,rfl,G,_,ac,_⟩:=af _ ak ak;have az:(⟨b,H,ϋ⟩:Addr).add j=⟨b,H+j,ϋ⟩:=by
    unfold Addr.add;split
    ·rename_i ah;subst ah;rfl
    ·rfl
   rw[az,ao.cells b _ G,show H+j=H+j/n* n+j%n by omega,ac _ ar,<-al _ _ ak ar,aA];exact J
  ·intro u aT;obtain⟨c,ac,aU⟩:=List.mem_flatten.1 aT;obtain⟨k,d,rfl⟩:=ε.1 ac;obtain⟨_,_,_,_,_,_,N⟩:=af k τ τ;rw[ϑ,ϖ d] at N;exact aR _ _ _ N u aU
  ·intro v' w' aQ I _ O;have aI: ∀k (d:k<(L++M).length),jv R (λk=>False∨v.ownBlock=ϊ k) w (((xs++css.flatten).drop (k* n)).take n) (L++M)[k]:=by
    intro k d;rw[Ϗ] at d;by_cases e:k<L.length
    ·have bb:k* n+n<=L.length* n:=by
      have:(k+1)* n<=L.length* n:=A0 n e;rw[C9,O3] at this;exact this
     have bf:=ae.1;have ag:((xs++css.flatten).drop (k* n)).take n=(xs.drop (k* n)).take n:=by
      rw[G9 τ,I0 (by rw[Ϡ];omega)]
     rw[ag,N1 e];exact aK k e
    ·have ai:k-L.length<M.length:=by omega
     obtain⟨_,_,_,_,aa,_,N⟩:=af _ ai ai;have ag:((xs++css.flatten).drop (k* n)).take n=css.getD (k-L.length) []:=by
      apply K9;intro j;rw[A8];split
      ·rename_i J;rw[D4,<-al _ _ ai J,ϯ (by rw[ae.1];have:=A0 n (show L.length<=k by omega);omega),ae.1]
       congr 1
       rw[Nat.sub_mul];have:=A0 n (show L.length<=k by omega);omega
      ·rename_i J;exact(M7.2 τ).symm
     rw[ag,List.getElem_append_right τ];exact(jv.old aE N (λb G=>by rcases G with G | G;exact ϧ G id;exact aV b G)).on ao
   refine h v' w' ⟨⟨xs++css.flatten,by rw[Ϗ];exact aQ,λk d w'' a'=> ?_⟩,λ_ _=>id⟩ I O;refine aI k d w'' ⟨a'.os.trans I.os,a'.tape.trans I.tape,a'.output.trans I.output,ϙ I.size a'.size,λb G U=> ?_⟩;rw[a'.block b (ϗ G I.size) ?_]
   ·exact I.block b G (λe=>U (ϓ e.symm))
   ·rintro(ab | ab)
    ·exact U (ϐ ab)
    ·rcases O with O | O
     ·exact U (ϓ (by rw[<-O];exact ab))
     ·rw[O] at ab;have:w.heap.size=b:=by injection ab
      omega):P:=h
section
open _root_.Go.Proofs.YtlmllmonabafjaaGreatDoor renaming JO->Ξa,JP->Ξb,JQ->Ξc
def uI (Y w:World) {a:Act} (an:o.guard=ϋ) (s x:Operand) (t:TypeId)
  (ap:o.op= .call {callee:= .builtin .append,args:= #[s,x],argTypes:= #[t,t]})
  (base:Nat) (e:TypeId) (i:TypeInfo) (z:Value) (n bytes:Nat) (au:P.underlying t=ϊ (.slice e)) (hi:P.info? e=ϊ i) (aW:i.zero=ϊ z)
  (aS:i.size=n) (aG:i.bytes=bytes) (aX:z.cells.size=n) (aj:0<n)
  (aE:gj R) (aR: ∀w cs y,R w cs y-> ∀u∈cs,u.oneCell'=ό)
  (v:Value) (L:List α) (U:a.eval s=v) (aq:jd n R (λ_=>False) w base e v L)
  (ax:Value) (M:List α) (av:a.eval x=ax) (aM:SlP n R Y ax M) (ao:qh Y w) (aV: ∀b,v.ownBlock=ϊ b->Y.heap.size<=b)
  (ba:1<=bytes) (aH:(L.length+M.length)* bytes<=140737488355328) (aF:base<=w.heap.size)
  (h: ∀v' w',jd n R (λ_=>False) w' base e v' (L++M)->w.grownBy w' v.ownBlock->(v'.ownBlock=v.ownBlock∨v'.ownBlock=ϊ w.heap.size)->wpList P ops Q rest (a.put o.dst v') w'):wpList P ops Q (o::rest) a w:=Ψ9
end
def Mq: ∀(w:World) (cs:List Value) (y:Int×List Int),ROu w cs y-> ∀u∈cs,u.oneCell'=ό:=by
 rintro w cs y ⟨v,rfl,⟨G,cap,rfl,_⟩,_⟩ u d;simp at d;rcases d with rfl | rfl<;>rfl
def Ij (w:World):jd 2 ROu (λ_=>False) (w.alloc (.cells #[] 56)) w.heap.size 56 (δ (ϊ ⟨w.heap.size,0,ϋ⟩) 0 0) []:=
 ⟨⟨[],by simpa using World.ownsRow_lit (e:=56) (size:=2) (base:=w.heap.size) w #[] 0 (ϕ _) (by unfold maxLen;omega) rfl,λi hi=>by simp at hi⟩,λ_ _ h=>h⟩
def IS (v:Value) (l:List (Int×List Int)) (w:World) (h:SlP 2 ROu w v l) (H:l.length<=1000000):
  Calls prog 108 #[v] w λe w'=>(∃v',e= .returned v'/\jd 2 ROu (λ_=>False) w' w.heap.size 56 v' l)/\qh w w':=by
 obtain⟨ak,hi,ah,ai,aj⟩:=info_parts (P:=prog) (e:=56) (z:= Γs) (size:=2) (bytes:=32) ξ;have I:=κ h;have ac:=κ H;obtain⟨al,cap,rfl,J,N,O,U,d⟩:=h;cases al with
 | none=>
  obtain rfl:cap=0:=d rfl;obtain rfl:l=[]:=Ϥ τ;clear I J N O U d H;have ag:=λw=>Lib.run_eql_slice_nil (P:=prog) w 53 56 ϋ 0 0 0 0 underlying53
  go_enter func108,ntmps108
  go_wp2;go_ret;exact⟨⟨_,rfl,jd.nil 2 ROu _ _ _ _⟩,qh.refl _⟩
 | some ad=>
  clear J N O U d H;have ag:=λw=>Lib.run_eql_slice_nil (P:=prog) w 53 56 (ϊ ad) l.length cap 0 0 underlying53
  go_enter func108,ntmps108
  go_wp2_with (at_builtin;refine uI w _ rfl (.tmp 5) (.tmp 6) 53 rfl w.heap.size 56 ak (Γs) 2 32 underlying53 hi ah ai aj rfl ζ IF Mq _ [] rfl (Ij w) _ l rfl I.o Z0 (λb G=>by cases G;exact ϕ _) ζ (by have:=ac.o;simp;omega) (qh.alloc w _).size ?_;intro am w2 aa Y af;have ae:=κ aa;have ab:Hid (qk (λb=>(δ (ϊ ⟨w.heap.size,0,ϋ⟩) 0 0).ownBlock=ϊ b) (w.alloc (.cells #[] 56)) w2):=κ (qk.of_grown Y);clear aa Y af)
  go_ret;refine⟨⟨_,rfl,by simpa using ae.o⟩, ?_⟩;exact((qk.of_more (S:=λb=>b=w.heap.size) (qh.alloc w _)).trans (ab.o.mono λb G=>by injection G with e;exact e.symm)).to_more (qh.refl _) (λk e=>by rw[e];exact ϕ _)
def EC {base d e m:Nat} (h:w.ownsRow base e n v m xs) (I:d<=base):w.ownsRow d e n v m xs:=by
 obtain⟨G,H⟩:=h;refine⟨G, ?_⟩;rcases H with h | ⟨g,cap,cur,e1,h3,h4⟩
 ·exact ϐ h
 ·exact ϓ ⟨g,cap,cur,e1,ϙ I h3,h4⟩
def Pg {S:Nat->Prop} {base e m:Nat} (h:w.ownsRow base e n v m xs) (a:qk S w w') (H: ∀b,v.ownBlock=ϊ b-> ¬S b):w'.ownsRow base e n v m xs:=by
 obtain⟨d,G⟩:=h;refine⟨d, ?_⟩;rcases G with h | ⟨g,cap,cur,e1,h3,h4,h5⟩
 ·exact ϐ h
 ·exact ϓ ⟨g,cap,cur,e1,h3,a.blk h4 (H g (by rw[e1];rfl)),h5⟩
def zH (w0 w:World) (v:Value) (W:List (Int×List Int)) (j:Nat):Prop:=
 ∃xs,w.ownsRow w0.heap.size 56 2 v W.length xs/\ ∀i (hi:i<W.length),∃u,xs[i* 2]? =ϊ (.int .i64 (W[i].1))/\xs[i* 2+1]? =ϊ u/\
  (∀w',qk (λk=>v.ownBlock=ϊ k) w w'->SlI .u8 w' u (W[i].2))/\(Byt (W[i].2)/\W[i].2.length<=200)/\(i<j->(∀b,u.ownBlock=ϊ b->w0.heap.size<=b/\b<w.heap.size/\v.ownBlock≠ϊ b)/\w.ownsRow w0.heap.size 5 1 u (W[i].2).length ((W[i].2).map (Value.int .u8)))
def zH.start {H:World} {D:Nat->Prop} (h:jd 2 ROu D w H.heap.size 56 v W):zH H w v W 0:=by
 obtain⟨⟨xs,o,r⟩,_⟩:=h;refine⟨xs,o,λi hi=> ?_⟩;obtain⟨u,e,_,I,N⟩:=(r i hi).read;have e0:=ϰ (λl:List Value=>l[0]?) e;have G:=ϰ (λl:List Value=>l[1]?) e;simp at e0 G;refine⟨u,e0,G,λw' a=> ?_,⟨I,N⟩,λh=>ϧ h τ⟩;obtain⟨U,d,O,_⟩:=(r i hi) w' (a.mono λk J=>ϓ J);rw[e] at d;simp at d;rw[d];exact O
def zH.more {H:World} (h:zH H w v W j) (m:qh w w'):zH H w' v W j:=by
 obtain⟨xs,o,r⟩:=h;refine⟨xs,yl o (S:=λ_=>False) (qk.of_more m) (λ_ _ h=>h),λi hi=> ?_⟩;obtain⟨u,I,J,N,O,d⟩:=r i hi;exact⟨u,I,J,λw'' a=>N w'' ((qk.of_more m).trans a),O,λh=>⟨λb G=>⟨((d h).1 b G).1,ϗ ((d h).1 b G).2.1 m.size,((d h).1 b G).2.2⟩,yl (d h).2 (S:=λ_=>False) (qk.of_more m) (λ_ _ h=>h)⟩⟩
def zH.shape {G:World} (h:zH G w v W j): ∃oa cap,v= δ oa W.length cap:=by
 obtain⟨xs,o,_⟩:=h;rcases o.2 with ⟨rfl,d⟩ | ⟨g,cap,cur,rfl,_⟩
 ·exact⟨ϋ,0,by rw[d]⟩
 ·exact⟨_,cap,rfl⟩
def zH.at {I:World} {H:Option Addr} {cap:Nat} (h:zH I w (δ H n cap) W j) (Y:n=W.length) (i:Nat) (hi:i<W.length):
  ∃g,H=ϊ ⟨g,0,ϋ⟩/\I.heap.size<=g/\g<w.heap.size/\ ∃u,w.cell? ⟨g,i* 2,ϋ⟩=ϊ (ι (W[i].1))/\w.cell? ⟨g,i* 2+1,ϋ⟩=ϊ u/\w.frozen? ⟨g,i* 2+1,ϋ⟩=ύ/\SlI .u8 w u (W[i].2)/\Byt (W[i].2)/\W[i].2.length<=200:=by
 subst Y;obtain⟨xs,o,r⟩:=h;obtain⟨g,rfl,d,G⟩: ∃g,H=ϊ ⟨g,0,ϋ⟩/\I.heap.size<=g/\g<w.heap.size:=by
  rcases o.2 with ⟨_,aa⟩ | ⟨g,c,cur,e,d,G,_⟩
  ·omega
  ·injection e with e1
   exact⟨g,e1,d,lt_of_block G⟩
 obtain⟨u,J,N,O,U,_⟩:=r i hi;exact⟨g,rfl,d,G,u,by rw[o.cellAt _ τ];exact J,by rw[o.cellAt _ τ];exact N,o.frozenAt _,O w (qk.refl _ _),U⟩
def zH.put {J w1:World} {g cap:Nat} (h:zH J w (δ (ϊ ⟨g,0,ϋ⟩) n cap) W j) (ad:n=W.length) (ak:j<W.length) (m:qh w w1) (aj:g<w.heap.size) (O:J.heap.size<=w.heap.size) {u:Value}
  (G:w1.ownsRow w.heap.size 5 1 u (W[j].2).length ((W[j].2).map (Value.int .u8))):zH J (w1.setCell ⟨g,j* 2+1,ϋ⟩ u) (δ (ϊ ⟨g,0,ϋ⟩) n cap) W (j+1):=by
 subst ad;obtain⟨xs,o,r⟩:=h.more m;obtain⟨os,ae⟩:=o.stored (j* 2+1) u;have a:qk (λk=>ϊ g=ϊ k) w1 (w1.setCell ⟨g,j* 2+1,ϋ⟩ u):=qk.of_grown ae;have aa:(w1.setCell ⟨g,j* 2+1,ϋ⟩ u).heap.size=w1.heap.size:=by simp
 refine⟨_,os,λi hi=> ?_⟩;obtain⟨ai,U,ab,ac,Y,I⟩:=r i hi;have am:xs.length=W.length* 2:=o.1;by_cases e:i=j
 ·subst e;refine⟨u,by rw[J2 τ];exact U,by rw[S2 τ],λw' a'=> ?_,Y,λ_=>⟨λb d=>⟨ϙ O (kF G d),by rw[aa];exact V0 G d,λH=> ?_⟩,EC (yl G a (λb d e=> ?_)) O⟩⟩
  ·exact(SlI.of_owns G τ).off (D:=λk=>ϊ g=ϊ k) (λb d H=>by have:=kF G d;have N:g=b:=N2 H;omega) (a.trans a')
  ·have:=kF G d;have N:g=b:=N2 H;omega
  ·have N:g=b:=N2 e;omega
 ·refine⟨ai,by rw[J2 τ];exact U,by rw[J2 τ];exact ab,λw' a'=>ac w' (a.trans a'),Y,λal=>⟨λb d=> ?_,Pg (I τ).2 a (λb d e=>((I τ).1 b d).2.2 e)⟩⟩;obtain⟨af,ag,ah⟩:=(I τ).1 b d;exact⟨af,by rw[aa];exact ag,ah⟩
def ROn (base:Nat):qO (Int×List Int):=λw cs o=> ∃v,cs=[.int .i64 o.1,v]/\SlI .u8 w v o.2/\Byt o.2/\o.2.length<=200/\(∀b,v.ownBlock=ϊ b->base<=b)/\w.ownsRow base 5 1 v o.2.length (o.2.map (Value.int .u8))
def zH.done {I:World} (h:zH I w v W W.length):jd 2 (ROn I.heap.size) (λb=>b<I.heap.size) w I.heap.size 56 v W:=by
 obtain⟨xs,o,r⟩:=h;refine⟨⟨xs,o,λi hi=> ?_⟩,λb G ad=>by have:=kF o G;omega⟩;obtain⟨u,O,U,Y,N,H⟩:=r i hi;have aa:(xs.drop (i* 2)).take 2=[ι (W[i].1),u]:=by
  apply K9;intro k
  match k with
  | 0=>simpa using O
  | 1=>simpa using U
  | k+2=>
   rw[G4 (by rw[ϛ];omega),G4 η]
 intro w' a;refine⟨u,aa, ?_,N.1,N.2,λb G=>((H hi).1 b G).1,Pg (H hi).2 a (λb G d=> ?_)⟩
 ·refine(Y w (qk.refl _ _)).off (λb G d=> ?_) a;obtain⟨ab,ac,J⟩:=(H hi).1 b G;rcases d with d | d
  ·omega
  ·exact J d
 ·obtain⟨ab,ac,J⟩:=(H hi).1 b G;rcases d with d | d
  ·omega
  ·exact J d
def U6 (h:LnX N w k vo s) (ab:s.W.length<=1000000):Calls prog 48 #[γ k.L] w λe w'=>(∃v,e= .returned v/\jd 2 (ROn w.heap.size) (λb=>b<w.heap.size) w' w.heap.size 56 v s.W)/\qh w w':=by
 have az:w.cell? ⟨k.L,0,ϋ⟩=ϊ vo:=qi h.blk 0 rfl;have ah:=κ (IS vo s.W w (h.o.sl ζ) ab);have aA:(s.W.length:Int)<=9223372036854775807:=by omega
 clear h ab
 go_enter func48,ntmps48
 go_wp2_with (go_at_call 108;(go_call ah.o as e w1 ⟨⟨aH,rfl,U⟩,af⟩;have am:=κ (zH.start U);have ak:=κ af;obtain⟨av,cap,rfl⟩:=(zH.start U).shape;clear U af))
 go_loopw [12] (λJ wr=> ∃j:Nat,j<=s.W.length/\J= ι j/\zH w wr (δ av s.W.length cap) s.W j/\qh w wr) (λJ _=>s.W.length-(intOf J).toNat)
 case atStart=>exact⟨0,τ,rfl,am.o,ak.o⟩
 case round=>
  obtain⟨j,aB,rfl,ae,ad⟩:=hrel;have d:=κ ae;have H:=κ ad;clear ae ad;by_cases hlt:j<s.W.length
  ·have aC:(j:Int)<(s.W.length:Int):=by omega
   obtain⟨g,rfl,ac,ap,u,ax,ay,aG,I,ao,ar⟩:=d.o.at rfl j hlt;have Y:=κ ap;have aj:=κ ac;have ai:=κ (Jk u _ wr I τ);have au:w.heap.size<=wr.heap.size:=H.o.size;obtain⟨aw,an,rfl,_⟩:=id I;clear I ao ar ac ax
   go_wp2_with (go_at_call 50;(go_call ai.o as e ag ⟨⟨v3,rfl,O⟩,G⟩;have al:=κ O;have aa:=κ G;have aF:ag.cell? ⟨g,j* 2+1,ϋ⟩=ϊ (δ aw (s.W[j].2).length an):=(by rw[G.cells _ _ Y.o];exact ay);have p2:ag.frozen? ⟨g,j* 2+1,ϋ⟩=ύ:=((d.o.more G).at rfl j hlt |>.elim λg' aq=>by obtain⟨e,_,_,_,_,_,f,_⟩:=aq;injection e with e;injection e with e;subst e;exact f);obtain⟨aE,c4,rfl⟩:=yd O;clear O G))
   go_roundw
   case rel=>exact⟨j+1,τ,by go_num,d.o.put rfl hlt aa.o Y.o au al.o,(H.o.trans aa.o).st aj.o _⟩
   case measure=>simp[intOf];omega
  ·obtain rfl:j=s.W.length:=by omega
   have aD: ¬(s.W.length:Int)<(s.W.length:Int):=by omega
   go_wp2;go_ret;exact⟨⟨_,rfl,d.o.done⟩,H.o⟩
section
variable {N:Nat->Prop} {w:World} {L:Nat} {s:LnS}
def XB (h:zZ N w L s):Calls prog 69 #[γ L] w λe w'=>e= .returned (μ s.gone)/\qh w w':=by
 obtain⟨k,vo,rfl,x⟩:=h;exact Qy x
def Mx (h:zZ N w L s) (n:Int) (d:n=1∨n=2∨n=3):Calls prog 74 #[γ L,ι n] w λe w'=>e= .returned (μ (zQ s n))/\qh w w':=by
 obtain⟨k,vo,rfl,x⟩:=h;rcases d with rfl | rfl | rfl
 ·exact Vn x
 ·exact Vm x
 ·exact Xy x
def It (h:zZ N w L s):Calls prog 68 #[γ L] w λe w'=>e= .returned (θ #[ι s.A.length,ι s.B.length,ι s.C.length])/\qh w w':=by
 obtain⟨k,vo,rfl,x⟩:=h;exact Is x
def Zc (h:zZ N w L s):Calls prog 67 #[γ L] w λe w'=>e= .returned (.tuple #[θ #[ι s.cur,ι s.tgt],s.wanted])/\qh w w':=by
 obtain⟨k,vo,rfl,x⟩:=h;exact CZ x
def Hm (h:zZ N w L s) (n:Int):Calls prog 91 #[γ L,ι n] w λe w'=>e= .returned (ι (jA s n).2)/\zZ (xy N w w') w' L (jA s n).1/\qk N w w':=by
 obtain⟨k,vo,rfl,x⟩:=h;refine(Hl x n).mono ?_;rintro e w' ⟨rfl,d,G⟩;exact⟨rfl,⟨k,vo,rfl,d⟩,G⟩
def At (h:zZ N w L s):Calls prog 137 #[γ L] w λe w'=>e= .returned (.tuple #[ι (qP s).2.1,ι (qP s).2.2.1,μ (qP s).2.2.2])/\zZ (xy N w w') w' L (qP s).1/\qk N w w':=by
 obtain⟨k,vo,rfl,x⟩:=h;refine(Ar x).mono ?_;rintro e w' ⟨rfl,d,G⟩;exact⟨rfl,⟨k,vo,rfl,d⟩,G⟩
def Wr (h:zZ N w L s):Calls prog 138 #[γ L] w λe w'=>e= .returned (.tuple #[ι (qN s).2.1,μ (qN s).2.2.1,μ (qN s).2.2.2])/\zZ (xy N w w') w' L (qN s).1/\qk N w w':=by
 obtain⟨k,vo,rfl,x⟩:=h;refine(Wp x).mono ?_;rintro e w' ⟨rfl,d,G⟩;exact⟨rfl,⟨k,vo,rfl,d⟩,G⟩
def Cx (h:zZ N w L s) (H:s.W.length<=1000000) (acc:Bool):Calls prog 121 #[γ L,acc] w λe w'=>e= .returned (.tuple #[ι (qJ s acc).2.1,ι (qJ s acc).2.2.1,μ (qJ s acc).2.2.2])/\zZ (xy N w w') w' L (qJ s acc).1/\qk N w w':=by
 obtain⟨k,vo,rfl,x⟩:=h;refine(Cu x H acc).mono ?_;rintro e w' ⟨rfl,vo',d,G⟩;exact⟨rfl,⟨k,vo',rfl,d⟩,G⟩
def Mk (h:zZ N w L s) (x:ItS) (os H I:Option Addr) (G ke d:Nat) (Y:PkS w (δ os x.pk.ss.length G) (δ H x.pk.ex.length ke) (δ I x.pk.pl.length d) x.pk) (U:ud x.pk) (aa:gG x.pk):
  Calls prog 136 #[γ L,(Γj x os G H ke I d)] w λe w'=>e= .returned (.tuple #[ι (jL s x).2.1,μ (jL s x).2.2.1,ι (jL s x).2.2.2])/\zZ (xy N w w') w' L (jL s x).1/\qk N w w':=by
 obtain⟨k,vo,rfl,ab⟩:=h;refine(Mj ab x os H I G ke d Y U aa).mono ?_;rintro e w' ⟨rfl,J,O⟩;exact⟨rfl,⟨k,vo,rfl,J⟩,O⟩
def U7 (h:zZ N w L s) (d:s.W.length<=1000000):Calls prog 48 #[γ L] w λe w'=>(∃v,e= .returned v/\jd 2 (ROn w.heap.size) (λb=>b<w.heap.size) w' w.heap.size 56 v s.W)/\qh w w':=by
 obtain⟨k,vo,rfl,x⟩:=h;exact U6 x d
end
def NY (w:World):(zeroValue 35).run prog w= .ok (δ ϋ 0 0) w:=by kernel_rfl
def Nj (w:World) (A i c:Nat) (v:Value) (d:w.cell? ⟨A,i,ϋ⟩=ϊ v) (G:w.frozen? ⟨A,i,ϋ⟩=ύ):
  (Builtin.clear_ #[225] 0 #[δ (ϊ ⟨A,i,ϋ⟩) 1 c]).run prog w= .ok (.tuple #[]) (w.setCell ⟨A,i,ϋ⟩ (δ ϋ 0 0)):=by
 have H:=NY w;unfold Builtin.clear_;simp[run_underlying underlying225,H,Value.cells,Builtin.zeroCells,storeCells,Addr.add,d,G,go_sem]
def KI: ∀(css:List (List Value)) (i:Nat) (z:Value),(∀c∈css,c.length=1)->css.flatten.set i z=(css.set i [z]).flatten
 | [],i,z,_=>by simp
 | c::css,0,z,h=>by
  obtain⟨x,rfl⟩:=N6.1 (h c η);simp
 | c::css,i+1,z,h=>by
  obtain⟨x,rfl⟩:=N6.1 (h c η);simp[KI css i z (λc d=>h c (by simp[d]))]
section
variable {w:World} {R A room first:Nat} {q:List (List Value)} {ci co cd cg:Int} {css:List (List Value)}
abbrev yr:=qU 1 229 35
def qU.cellY (h:yr w R A room first q ci co cd cg css) {i:Nat} (hi:i<room): ∃v,css.getD i []=[v]/\w.cell? ⟨A,i,ϋ⟩=ϊ v:=by
 have G:i<css.length:=by rw[h.len];exact hi
 have d:css.getD i []=css[i]:=by simp[G]
 obtain⟨v,H⟩:=N6.1 (h.cl css[i] (Ϣ G));refine⟨v,by rw[d];exact H, ?_⟩;have:=h.range hi 0 v (by rw[d,H];rfl)
 simpa using this
def qU.setY (h:yr w R A room first q ci co cd cg css) (i:Nat) (z:Value):(w.setCell ⟨A,i,ϋ⟩ z).heap[A]? =ϊ (.cells (css.set i [z]).flatten.toArray 35 (0,0)):=by
 refine qF (qt h.row i z) ?_;rw[<-KI css i z h.cl];simp
def RE (h:yr w R A room first q ci co cd cg css):
  Calls prog 66 #[γ R] w λe w'=>e= .returned (ι q.length)/\w'=w:=by
 have d:w.cell? ⟨R,2,ϋ⟩=ϊ (ι q.length):=qi h.ring 2 rfl;clear h
 go_enter func66,ntmps66
 go_wp2;go_ret;exact⟨rfl,rfl⟩
def LI (h:yr w R A room first q ci co cd cg css):
  Calls prog 139 #[γ R] w λe w'=>e= .returned (μ (decide (q.length=room)))/\ ∃k,w'=w.drewN k:=by
 have H:w.cell? ⟨R,0,ϋ⟩=ϊ (δ (ϊ ⟨A,0,ϋ⟩) room room):=qi h.ring 0 rfl;have I:w.cell? ⟨R,2,ϋ⟩=ϊ (ι q.length):=qi h.ring 2 rfl;have G:((q.length:Int)==(room:Int))=decide (q.length=room):=by by_cases e:q.length=room<;>simp[e];omega
 clear h
 go_enter func139,ntmps139
 go_wp2;refine wp_region_quiet_lit ξ ξ ?_
 repeat (go_big_quiet_step (fail))
 refine wpQuiet_nil ?_;intro _ d;obtain⟨nq,rfl⟩:=d;go_wp2;go_ret;exact⟨rfl,nq,rfl⟩
def EU (m:Int) (d:m<1∨8<m) (w:World):
  Calls prog 40 #[ι m] w λe w'=>e= .returned (.tuple #[π ϋ,ι 1])/\qh w w':=by
 go_enter func40,ntmps40
 go_wp2
 all_goals (refine bodyPost_ret (v:= .tuple #[π ϋ,ι 1]) (by simp[results,results40,go_sem]) rfl ?_;exact⟨rfl,ρ⟩)
def mkY (n:Nat) (N:1<=n) (O:n<=8) (w:World):
  (Instr.makeSlice 225 (ι (n:Int)) (ι (n:Int))).run prog w= .ok (δ (ϊ ⟨w.heap.size,0,ϋ⟩) n n) (w.alloc (.cells (List.replicate n [δ ϋ 0 0]).flatten.toArray 35)):=by
 obtain⟨J,hi,G,H,I⟩:=info_parts (P:=prog) (e:=35) (z:= δ ϋ 0 0) (size:=1) (bytes:=24) ξ;have d:=run_make (P:=prog) w 225 35 J (δ ϋ 0 0) underlying225 hi G .i64 .i64 n n τ τ (by rw[I];omega) τ;rw[d];simp only[A7,H];rw[Vd _ 1 n rfl ζ];rfl
def Yy (m:Int) (n:Nat) (I:m=n) (d:1<=n) (G:n<=8) (w:World):
  Calls prog 40 #[ι m] w λe w'=>e= .returned (.tuple #[γ (w.heap.size+1),ι 0])/\yr w' (w.heap.size+1) w.heap.size n 0 [] 0 0 0 0 (List.replicate n [δ ϋ 0 0])/\qh w w':=by
 subst I;have J:1<=(n:Int):=by omega
 go_enter func40,ntmps40
 have N:=mkY n d G;go_wp2;refine bodyPost_ret (v:= .tuple #[γ (w.heap.size+1),ι 0]) (by simp[results,results40,go_sem]) rfl ?_;refine⟨rfl, ?_,ρ⟩;exact⟨qH η,qv (qF (qp _ _) (by have:(List.replicate n [δ ϋ 0 0]).flatten=List.replicate n (δ ϋ 0 0):=η;rw[this];simp)) _,τ,η,λc H=>by rw[G8 H];exact⟨rfl,by simp[Value.oneCell']⟩,⟨d,G⟩,τ,η,λi hi=>by simp at hi⟩
def Bq (w:World) (R A room first:Nat) (ad:Option Addr) (af ae:Nat) (T:List (List Value)) (aa ab U Y:Int) (css:List (List Value)) (h:yr w R A room first ([δ ad af ae]::T) aa ab U Y css):
  Calls prog 140 #[γ R] w λe w'=>e= .returned (δ ad af ae)/\yr w' R A room ((first+1)%room) T aa ab U Y (css.set first [δ ϋ 0 0])/\qk (RgB R A) w w':=by
 have d:=κ h;have av:w.cell? ⟨R,0,ϋ⟩=ϊ (δ (ϊ ⟨A,0,ϋ⟩) room room):=qi h.ring 0 rfl;have aw:w.cell? ⟨R,1,ϋ⟩=ϊ (ι first):=qi h.ring 1 rfl;obtain⟨v,J,a0⟩:=h.cellY h.fst;rw[h.head] at J;injection J with J
 subst J;have ao:=h.fst;have ap:(first:Int)<(room:Int):=by omega
 have aq:0<=(first:Int):=by omega
 have ar:=h.pos.1;have au:=h.pos.2;have I:R<w.heap.size:=qq h.ring;have H:=h.ne;clear h
 go_enter func140,ntmps140
 go_wp2;refine wp_region_quiet_lit ξ ξ ?_
 repeat (go_big_quiet_step (fail))
 refine wpQuiet_nil ?_;intro _ ak;obtain⟨nq,rfl⟩:=ak
 go_wp2_with fail
 have N: ∀x:qC (λb=>b=A) w,x.w'.cell? ⟨R,0,ϋ⟩=ϊ (δ (ϊ ⟨A,0,ϋ⟩) room room):=λx=>x.cell I H (qi d.o.ring 0 rfl)
 have O: ∀x:qC (λb=>b=A) w,x.w'.cell? ⟨R,1,ϋ⟩=ϊ (ι first):=λx=>x.cell I H (qi d.o.ring 1 rfl)
 refine QN (λb=>b=A) w 15 15 [14] ?_
 refine Hc ?_
 refine jY rfl rfl ?_;intro K G;have aj:=Nj (w.drewN (nq+1)) A first (room-first) _ a0 (ql d.o.row first)
 unfold jt;go_simp;refine⟨qn σ,G _ _ ?_⟩;clear G K aj N O;refine qD ?_
 go_wp2_with fail
 have N: ∀x:qC (λb=>b=A) w,x.w'.cell? ⟨R,0,ϋ⟩=ϊ (δ (ϊ ⟨A,0,ϋ⟩) room room):=λx=>x.cell I H (qi d.o.ring 0 rfl)
 have O: ∀x:qC (λb=>b=A) w,x.w'.cell? ⟨R,1,ϋ⟩=ϊ (ι first):=λx=>x.cell I H (qi d.o.ring 1 rfl)
 refine QN (λb=>b=A) w 14 15 [12,14] ?_
 refine NW ?_
 (refine Ql ?_;intro K G)
 refine⟨qn σ,G _ _ ?_⟩;clear G K
 refine Qs1 ?_
 have ac: ¬A=R:=λe=>H e.symm
 have al:w.frozen? ⟨R,1,ϋ⟩=ύ:=ql d.o.ring 1;have am:w.frozen? ⟨R,2,ϋ⟩=ύ:=ql d.o.ring 2;have ax:w.cell? ⟨R,2,ϋ⟩=ϊ (ι (T.length+1)):=qi d.o.ring 2 (by simp[xe])
 (refine Qe ?_;intro K G)
 refine G _ _ ?_;clear G K;refine qD ?_;have an:(T.length:Int)<=8:=by have:=d.o.fits;simp at this;omega
 go_wp2;go_ret;refine⟨rfl, ?_,σ⟩;have ag:((first:Int)+1)%(room:Int)=(((first+1)%room:Nat):Int):=by rw[G7];rfl
 rw[ag];have ah:=qs (qr d.o.ring (nq+1)) ⟨A,first,ϋ⟩ (δ ϋ 0 0) H;have ai:=(d.o.more (qh.drewN w (nq+1))).setY first (δ ϋ 0 0)
 refine d.o.took ⟨rfl,by simp[Value.oneCell']⟩ (qF (qt (qt (qr ah 1) 1 _) 2 _) ?_) (qs (qs (qr ai 1) _ _ ac) _ _ ac);simp[xe]
def Rv (w:World) (R A room first:Nat) (d:Option Addr) (H G:Nat) (T:List (List Value)) (N O I J:Int) (css:List (List Value)) (h:yr w R A room first ([δ d H G]::T) N O I J css):
  Calls prog 128 #[γ R] w λe w'=>e= .returned (.tuple #[δ d H G,ό])/\(∃co',yr w' R A room ((first+1)%room) T N co' I J (css.set first [δ ϋ 0 0]))/\qk (RgB R A) w w':=by
 have aa:=κ h;have ad:((([δ d H G]::T).length:Int)==0)=ύ:=by simp;omega
 have ae:w.cell? ⟨R,2,ϋ⟩=ϊ (ι ([δ d H G]::T).length):=qi h.ring 2 rfl;have af:w.cell? ⟨R,5,ϋ⟩=ϊ (ι O):=qi h.ring 5 rfl;have ac:w.frozen? ⟨R,5,ϋ⟩=ύ:=ql h.ring 5;clear h
 go_enter func128,ntmps128
 go_wp2_with (go_at_call 140;(go_call Bq _ R A room first d H G T N _ I J css (aa.o.popped _) as e w5 ⟨rfl,U,a5⟩;have ab:=κ U;have Y:Hid (qk (RgB R A) w w5):=κ (((qk.refl _ _).set (ϐ rfl) _).trans a5);clear U a5))
 refine bodyPost_ret (v:= .tuple #[δ d H G,ό]) (by simp[results,results128,go_sem]) rfl ?_;exact⟨rfl,⟨_,ab.o⟩,Y.o⟩
end
def Nd (w:World) (R A room first:Nat) (q:List (List Value)) (N O I J:Int) (css:List (List Value)) (h:yr w R A room first q N O I J css) (ao: ∀c∈q,∃G n cp,c=[δ G n cp]):
  Calls prog 124 #[γ R] w λe w'=> ∃v,e= .returned v/\w'.ownsRow w.heap.size 35 1 v q.length q.flatten/\(∃first' cg' css',yr w' R A room first' [] N O I cg' css')/\qk (RgB R A) w w':=by
 obtain⟨aJ,aK,aL,aM,aN⟩:=info_parts (P:=prog) (e:=35) (z:= δ ϋ 0 0) (size:=1) (bytes:=24) ξ;have aw:=κ h;have aR:R<w.heap.size:=qq h.ring;have aQ:A<w.heap.size:=qq h.row;have aW:w.cell? ⟨R,2,ϋ⟩=ϊ (ι q.length):=qi h.ring 2 rfl;have aU:(q.length:Int)<=8:=by have:=h.fits;have:=h.pos.2;omega
 have aC:=κ ao;clear h ao
 go_enter func124,ntmps124
 go_wp2
 go_loopw [3,8] (λu ag wr=> ∃(j f:Nat) (cs:List (List Value)),j<=q.length/\ag= ι j/\(∃ar aq ak,u= δ ar aq ak)/\wr.ownsRow w.heap.size 35 1 u j (q.take j).flatten/\yr wr R A room f (q.drop j) N O I J cs/\qk (RgB R A) w wr) (λ_ ag _=>q.length-(intOf ag).toNat)
 case atStart=>exact⟨0,first,css,τ,rfl,⟨_,_,_,rfl⟩,World.ownsRow_nil w _ _ _,aw.o,qk.refl _ _⟩
 case round=>
  obtain⟨j,f,cs,aS,rfl,⟨ar,aq,ak,rfl⟩,d,ap,am⟩:=hrel;have ah:=κ d;have H:=κ ap;have ab:=κ am;clear d ap am;by_cases hlt:j<q.length
  ·have ad:q.drop j=q[j]::q.drop (j+1):=G3 hlt;have af:q.take (j+1)=q.take j++[q[j]]:=by rw[A9,ϖ hlt];rfl
   obtain⟨G,aa,Y,an⟩:=aC.o q[j] (Ϣ hlt);have aT:(j:Int)<(q.length:Int):=by omega
   rw[an] at ad af;have az:=κ (ad▸H.o);have aA:=κ af;clear ad af H an
   go_wp2_with (first | (go_at_call 140;(go_call Bq wr R A room f G aa Y (q.drop (j+1)) N O I J cs az.o as e w5 ⟨rfl,al,a5⟩;have ax:=κ al;have au:=κ a5;have U:=κ (yl ah.o a5 (λb ac e=>by rcases e with e | e<;>omega));have aD:Hid (w.heap.size<=w5.heap.size):=κ (ϙ ab.o.size a5.size);clear al a5)) | (at_builtin;(refine wpList_append_own_at _ rfl (.tmp 10) (.tmp 13) 225 rfl w.heap.size 35 aJ (δ ϋ 0 0) 1 24 underlying225 aK aL aM aN rfl ζ _ j (q.take j).flatten rfl (yl U.o (qk.of_more Z0) (λb _ e=>e)) ⟨w5.heap.size,0,ϋ⟩ 1 1 [δ G aa Y] rfl rfl (λi u aG=>by have:=jQ (cs:=[δ G aa Y]) (t:=35) (qp w5 (.cells #[δ G aa Y] 35)) i u aG;rw[Addr.add_mid];exact this) Z5 (by unfold maxLen;omega) τ (by have:=aD.o;simp;omega) ?_;intro aY w6 d ae aE aH;have aB:=κ d;have av:Hid (qk (RgB R A) w w6):=κ (((ab.o.trans au.o).alc _).grown ae (λb ac=>kF U.o ac));have ay:Hid (yr w6 R A room ((f+1)%room) (q.drop (j+1)) N O I J (cs.set f [δ ϋ 0 0])):=κ ((ax.o.more Z0).away (qk.of_grown ae) (λe=>by have:=kF U.o e;omega) (λe=>by have:=kF U.o e;omega));obtain⟨aV,aO,rfl⟩:=yd d;clear d ae aE aH)))
   go_roundw
   case rel=>exact⟨j+1,(f+1)%room,_,τ,by go_num,⟨_,_,_,rfl⟩,by rw[aA.o,I6];simpa using aB.o,ay.o,av.o⟩
   case measure=>simp[intOf];omega
  ·obtain rfl:j=q.length:=by omega
   have aX:wr.cell? ⟨R,7,ϋ⟩=ϊ (ι J):=qi H.o.ring 7 rfl;have aP:wr.frozen? ⟨R,7,ϋ⟩=ύ:=ql H.o.ring 7;go_wp2;go_ret;have aI:q.drop q.length=[]:=by simp
   have aF:q.take q.length=q:=by simp
   have aj:=H.o;have ai:=ah.o;rw[aI] at aj;rw[aF] at ai;exact⟨_,rfl,yl ai ((qk.refl (λb=>b=R) _).set rfl _) (λb ac e=>by omega),⟨_,_,_,aj.drained _⟩,ab.o.set (ϐ rfl) _⟩
def Wv (w:World) (R A room first:Nat) (q:List (List Value)) (J ac aa ab:Int) (css:List (List Value)) (h:yr w R A room first q J ac aa ab css) (az:q.length<room) (O:Option Addr) (Y U:Nat):
  Calls prog 83 #[γ R,δ O Y U] w λe w'=>e= .returned (.tuple #[δ ϋ 0 0,ύ,ι 0])/\(∃ci' cd',yr w' R A room first (q++[[δ O Y U]]) ci' ac cd' ab (css.set ((first+q.length)%room) [δ O Y U]))/\qk (RgB R A) w w':=by
 have ag:=κ h;have aB:w.cell? ⟨R,3,ϋ⟩=ϊ (μ ύ):=qi h.ring 3 rfl;have ay:decide (q.length=room)=ύ:=by simp;omega
 clear h
 go_enter func83,ntmps83
 go_wp2_with (go_at_call 139;(go_call LI ag.o as e am ⟨rfl,aJ,aj⟩;rw[ay];have ae:Hid (qh w am):=κ (by rw[aj];exact qh.drewN _ _);clear aj))
 obtain⟨G,ad⟩: ∃G,G=am:=⟨_,rfl⟩;have d:Hid (yr G R A room first q J ac aa ab css):=κ (by rw[ad];exact ag.o.more ae.o);have af:Hid (qk (RgB R A) w G):=κ (by rw[ad];exact qk.of_more ae.o);have aA:q.length<room:=az;rw[<-ad];clear ad ae aB;obtain⟨f,ai⟩: ∃f,Hid (f=first):=⟨_,κ rfl⟩;obtain⟨cs,ah⟩: ∃cs,Hid (cs=css):=⟨_,κ rfl⟩;rw[<-ai.o,<-ah.o] at d;have ao: ∀x:qu G,x.w'.cell? ⟨R,0,ϋ⟩=ϊ (δ (ϊ ⟨A,0,ϋ⟩) room room):=λx=>x.cell (qq d.o.ring) (qi d.o.ring 0 rfl)
 have ap: ∀x:qu G,x.w'.cell? ⟨R,1,ϋ⟩=ϊ (ι f):=λx=>x.cell (qq d.o.ring) (qi d.o.ring 1 rfl)
 have aq: ∀x:qu G,x.w'.cell? ⟨R,2,ϋ⟩=ϊ (ι q.length):=λx=>x.cell (qq d.o.ring) (qi d.o.ring 2 rfl)
 have aG:((f:Int)+(q.length:Int))%(room:Int)=(((f+q.length)%room:Nat):Int):=by rw[G7];rfl
 have ax:(f+q.length)%room<room:=G6 _ τ;have hi:(((f+q.length)%room:Nat):Int)<(room:Int):=by omega
 have aH:=d.o.pos;have aE:=d.o.fst;have aF:(f:Int)<=8:=by omega
 have aI:(q.length:Int)<=8:=by omega
 obtain⟨v0,_,au⟩:=d.o.cellY ax;have av:G.frozen? ⟨A,(f+q.length)%room,ϋ⟩=ύ:=ql d.o.row _;generalize aw:(f+q.length)%room=I at *;refine Qn G 21 22 [21] ?_
 refine NX ?_
 (refine Qe ?_;intro K ak)
 refine ak _ _ ?_;clear ak K ao ap aq;refine qD ?_;obtain⟨W6,N⟩:=ν ((G.drewN 1).setCell ⟨A,I,ϋ⟩ (δ O Y U));have an:Hid (qk (RgB R A) w W6):=κ (by rw[<-N];exact(af.o.drewN 1).set (ϓ rfl) _);have H:Hid (W6.heap[R]? =ϊ (.cells (xe A room f q.length J ac aa ab) 229 (0,0))):=κ (by rw[<-N];exact qs (qr d.o.ring 1) _ _ d.o.ne);have ar:Hid (W6.heap[A]? =ϊ (.cells (cs.set I [δ O Y U]).flatten.toArray 35 (0,0))):=κ (by rw[<-N];exact(d.o.more (qh.drewN G 1)).setY I _)
 (try rw[N])
 clear N af au av;have aK:W6.cell? ⟨R,2,ϋ⟩=ϊ (ι q.length):=qi H.o 2 rfl;have aC:W6.frozen? ⟨R,2,ϋ⟩=ύ:=ql H.o 2;have aL:W6.cell? ⟨R,4,ϋ⟩=ϊ (ι J):=qi H.o 4 rfl;have aD:W6.frozen? ⟨R,4,ϋ⟩=ύ:=ql H.o 4;go_wp2;refine bodyPost_ret (v:= .tuple #[δ ϋ 0 0,ύ,ι 0]) (by simp[results,results83,go_sem]) rfl ?_;have al:R≠A:=d.o.ne;subst aw;obtain rfl:=ai.o;obtain rfl:=ah.o;refine⟨rfl,⟨wrap64 (J+1),aa,d.o.put aA ⟨rfl,by simp[Value.oneCell']⟩ ?_ ?_⟩,(an.o.set (ϐ rfl) _).set (ϐ rfl) _⟩
 ·exact qF (qt (qt H.o 2 _) 4 _) rfl
 ·exact qs (qs ar.o _ _ (C6 al)) _ _ (C6 al)
def Ww (w:World) (R A room first:Nat) (N:Option Addr) (U O:Nat) (T:List (List Value)) (J ab H aa:Int) (css:List (List Value)) (h:yr w R A room first ([δ N U O]::T) J ab H aa css) (ai:([δ N U O]::T).length=room) (ad:Option Addr) (af ae:Nat):
  Calls prog 83 #[γ R,δ ad af ae] w λe w'=>e= .returned (.tuple #[δ N U O,ό,ι 0])/\(∃ci' cd',yr w' R A room ((first+1)%room) (T++[[δ ad af ae]]) ci' ab cd' aa ((css.set first [δ ϋ 0 0]).set ((((first+1)%room)+T.length)%room) [δ ad af ae]))/\qk (RgB R A) w w':=by
 have am:=κ h;have aI:w.cell? ⟨R,3,ϋ⟩=ϊ (μ ύ):=qi h.ring 3 rfl;have aG:decide (([δ N U O]::T).length=room)=ό:=by simp at ai ⊢;exact ai
 clear h
 go_enter func83,ntmps83
 go_wp2_with (first | (go_at_call 139;(go_call LI am.o as e av ⟨rfl,aS,aq⟩;rw[aG];have aj:Hid (qh w av):=κ (by rw[aq];exact qh.drewN _ _);clear aq)) | (go_at_call 140;(go_call Bq av R A room first N U O T J ab H aa css (am.o.more aj.o) as e w5 ⟨rfl,ag,a5⟩;have an:=κ ag;have ak:Hid (qk (RgB R A) w w5):=κ ((qk.of_more aj.o).trans a5);have aJ:w5.cell? ⟨R,6,ϋ⟩=ϊ (ι H):=qi ag.ring 6 rfl;have aD:w5.frozen? ⟨R,6,ϋ⟩=ύ:=ql ag.ring 6;clear ag a5)))
 obtain⟨G,ah⟩:=ν (w5.setCell ⟨R,6,ϋ⟩ (ι (wrap64 (H+1))));have d:Hid (yr G R A room ((first+1)%room) T J ab (wrap64 (H+1)) aa (css.set first [δ ϋ 0 0])):=κ (by rw[<-ah];exact an.o.dropped _);have al:Hid (qk (RgB R A) w G):=κ (by rw[<-ah];exact ak.o.set (ϐ rfl) _);have aH:T.length<room:=by simp at ai;omega
 (try rw[ah])
 clear ah aj an ak aJ aD aI ai;obtain⟨f,ap⟩: ∃f,Hid (f=((first+1)%room)):=⟨_,κ rfl⟩;obtain⟨cs,ao⟩: ∃cs,Hid (cs=(css.set first [δ ϋ 0 0])):=⟨_,κ rfl⟩;rw[<-ap.o,<-ao.o] at d;have ax: ∀x:qu G,x.w'.cell? ⟨R,0,ϋ⟩=ϊ (δ (ϊ ⟨A,0,ϋ⟩) room room):=λx=>x.cell (qq d.o.ring) (qi d.o.ring 0 rfl)
 have ay: ∀x:qu G,x.w'.cell? ⟨R,1,ϋ⟩=ϊ (ι f):=λx=>x.cell (qq d.o.ring) (qi d.o.ring 1 rfl)
 have az: ∀x:qu G,x.w'.cell? ⟨R,2,ϋ⟩=ϊ (ι T.length):=λx=>x.cell (qq d.o.ring) (qi d.o.ring 2 rfl)
 have aP:((f:Int)+(T.length:Int))%(room:Int)=(((f+T.length)%room:Nat):Int):=by rw[G7];rfl
 have aF:(f+T.length)%room<room:=G6 _ τ;have hi:(((f+T.length)%room:Nat):Int)<(room:Int):=by omega
 have aQ:=d.o.pos;have aM:=d.o.fst;have aN:(f:Int)<=8:=by omega
 have aO:0<=(f:Int):=by omega
 have aR:(T.length:Int)<=8:=by omega
 obtain⟨v0,_,aB⟩:=d.o.cellY aF;have aC:G.frozen? ⟨A,(f+T.length)%room,ϋ⟩=ύ:=ql d.o.row _;generalize aE:(f+T.length)%room=I at *;refine Qn G 21 22 [21] ?_
 refine NX ?_
 (refine Qe ?_;intro K ar)
 refine ar _ _ ?_;clear ar K ax ay az;refine qD ?_;obtain⟨W6,ac⟩:=ν ((G.drewN 1).setCell ⟨A,I,ϋ⟩ (δ ad af ae));have aw:Hid (qk (RgB R A) w W6):=κ (by rw[<-ac];exact(al.o.drewN 1).set (ϓ rfl) _);have Y:Hid (W6.heap[R]? =ϊ (.cells (xe A room f T.length J ab (wrap64 (H+1)) aa) 229 (0,0))):=κ (by rw[<-ac];exact qs (qr d.o.ring 1) _ _ d.o.ne);have aA:Hid (W6.heap[A]? =ϊ (.cells (cs.set I [δ ad af ae]).flatten.toArray 35 (0,0))):=κ (by rw[<-ac];exact(d.o.more (qh.drewN G 1)).setY I _)
 (try rw[ac])
 clear ac al aB aC;have aT:W6.cell? ⟨R,2,ϋ⟩=ϊ (ι T.length):=qi Y.o 2 rfl;have aK:W6.frozen? ⟨R,2,ϋ⟩=ύ:=ql Y.o 2;have aU:W6.cell? ⟨R,4,ϋ⟩=ϊ (ι J):=qi Y.o 4 rfl;have aL:W6.frozen? ⟨R,4,ϋ⟩=ύ:=ql Y.o 4;go_wp2;refine bodyPost_ret (v:= .tuple #[δ N U O,ό,ι 0]) (by simp[results,results83,go_sem]) rfl ?_;have au:R≠A:=d.o.ne;subst aE;obtain rfl:=ap.o;obtain rfl:=ao.o;refine⟨rfl,⟨wrap64 (J+1),wrap64 (H+1),d.o.put aH ⟨rfl,by simp[Value.oneCell']⟩ ?_ ?_⟩,(aw.o.set (ϐ rfl) _).set (ϐ rfl) _⟩
 ·exact qF (qt (qt Y.o 2 _) 4 _) rfl
 ·exact qs (qs aA.o _ _ (C6 au)) _ _ (C6 au)
section
open Go.RowKit Go.Lib
def KK: ∀(css:List (List Value)) (i j:Nat),(∀c∈css,c.length=n)->i<css.length->j<n->css.flatten[i* n+j]? =(css.getD i [])[j]?
 | [],_,_,_,h,_=>ϧ h η
 | c::css,0,j,hl,_,hj=>by
  have:=hl c η;rw[B3,M5,E9,ϻ τ];rfl
 | c::css,i+1,j,hl,hi,hj=>by
  have d:=hl c η;rw[B3,ϯ (by rw[d,C9];omega),d,show (i+1)* n+j-n=i* n+j by rw[C9];omega];exact KK css i j (λG H=>hl G (by simp[H])) (by simpa using hi) hj
def aB:List Int:=[128,201,0,1,0,0,0,5,129,206,0,2,0,0,0,0,0,0,0,7,132,206,0,6,0,0,0,0,0,0,0,0,0,0,0,8,0,0,0,0,0,0,0,9,0,0,0,0,129,205,0,3,0,0,0,0,0,0,0,7,0,1,0,1,128,203,0,0]
end
def Kj (d:α) (p:Nat->α->Prop): ∀m,(∀i,i<m-> ∃c,p i c)-> ∃l:List α,l.length=m/\ ∀i,i<m->p i (l.getD i d)
 | 0,_=>⟨[],rfl,λi hi=>ϧ hi τ⟩
 | m+1,h=>by
  obtain⟨l,G,I⟩:=Kj d p m λi hi=>h i τ
  obtain⟨c,H⟩:=h m τ;refine⟨l++[c],by simp[G],λi hi=> ?_⟩;by_cases e:i<m
  ·have:=I i e;rw[ϑ] at this ⊢;rw[ϻ τ];exact this
  ·obtain rfl:i=m:=by omega
   rw[ϑ,ϯ τ,G]
   simpa using H
def KJ: ∀(css:List (List Value)),(∀c∈css,c.length=n)->css.flatten.length=css.length* n
 | [],_=>by simp
 | c::css,h=>by
  rw[B3,Ϗ,KJ css λd G=>h d (by simp[G]),h c η,Ϙ,C9];omega
section
open _root_.Go.Proofs.YtlmllmonabafjaaGreatDoor renaming Kj->Ξa,KJ->Ξb,KK->Ξc
def Qc (Y w:World) {a:Act} (an:o.guard=ϋ) (s x:Operand) (t:TypeId)
  (ap:o.op= .call {callee:= .builtin .append,args:= #[s,x],argTypes:= #[t,t]})
  (base:Nat) (e:TypeId) (i:TypeInfo) (z:Value) (n bytes:Nat) (au:P.underlying t=ϊ (.slice e)) (hi:P.info? e=ϊ i) (aW:i.zero=ϊ z)
  (aS:i.size=n) (aG:i.bytes=bytes) (aX:z.cells.size=n) (aj:0<n)
  (aE:gj R) (aR: ∀w cs y,R w cs y-> ∀u∈cs,u.oneCell'=ό)
  (v:Value) (L:List α) (U:a.eval s=v) (aq:jd n R (λ_=>False) w base e v L)
  (ax:Value) (M:List α) (av:a.eval x=ax) (aM:SlP n R Y ax M) (ao:qh Y w) (aV: ∀b,v.ownBlock=ϊ b->Y.heap.size<=b)
  (ba:1<=bytes) (aH:(L.length+M.length)* bytes<=140737488355328) (aF:base<=w.heap.size)
  (h: ∀v' w',jd n R (λ_=>False) w' base e v' (L++M)->w.grownBy w' v.ownBlock->(v'.ownBlock=v.ownBlock∨v'.ownBlock=ϊ w.heap.size)->wpList P ops Q rest (a.put o.dst v') w'):wpList P ops Q (o::rest) a w:=Ψ9
end
end Go.Proofs.YtlmllmonabafjaaGreatDoor
