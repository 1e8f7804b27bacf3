/- Contracts of the functions that the law reaches, and plain laws; no conditions but those written at each. -/
import Derived.Test.YtdgippmmaponfaaGreatMg14
namespace Go.Proofs.YtdgippmmaponfaaGreat
open Go.Value renaming bool->μ,slice->δ,pointer->π,agg->θ
open Go.IntKind renaming i64->ι,u8->υ,u16->φ,u32->ω,i32->χ,u64->ψ
open _root_.Go.Proofs.Tryz
set_option linter.unusedSimpArgs false
set_option maxHeartbeats 8000000
set_option linter.unusedVariables false
open Go.RowKit
set_option maxRecDepth 100000
theorem Qq1 {P Q:Prop} (k:Q) (h:(Unit->Q)->P:=by intro k;(iterate 1 (refine qE rfl rfl (qk ρ) ?_;intro K hK;go_big_quiet_op;go_big_quiet_on));exact k ()):P:=h (λ_=>k)
theorem Qq2 {P Q:Prop} (k:Q) (h:(Unit->Q)->P:=by intro k;(iterate 2 (refine qE rfl rfl (qk ρ) ?_;intro K hK;go_big_quiet_op;go_big_quiet_on));exact k ()):P:=h (λ_=>k)
theorem Qq5 {P Q:Prop} (k:Q) (h:(Unit->Q)->P:=by intro k;(iterate 5 (refine qE rfl rfl (qk ρ) ?_;intro K hK;go_big_quiet_op;go_big_quiet_on));exact k ()):P:=h (λ_=>k)
theorem Qq6 {P Q:Prop} (k:Q) (h:(Unit->Q)->P:=by intro k;(iterate 6 (refine qE rfl rfl (qk ρ) ?_;intro K hK;go_big_quiet_op;go_big_quiet_on));exact k ()):P:=h (λ_=>k)
theorem Qq7 {P Q:Prop} (k:Q) (h:(Unit->Q)->P:=by intro k;(iterate 7 (refine qE rfl rfl (qk ρ) ?_;intro K hK;go_big_quiet_op;go_big_quiet_on));exact k ()):P:=h (λ_=>k)
theorem Qq8 {P Q:Prop} (k:Q) (h:(Unit->Q)->P:=by intro k;(iterate 8 (refine qE rfl rfl (qk ρ) ?_;intro K hK;go_big_quiet_op;go_big_quiet_on));exact k ()):P:=h (λ_=>k)
theorem Qq9 {P Q:Prop} (k:Q) (h:(Unit->Q)->P:=by intro k;(iterate 9 (refine qE rfl rfl (qk ρ) ?_;intro K hK;go_big_quiet_op;go_big_quiet_on));exact k ()):P:=h (λ_=>k)
theorem NC {P Q:Prop} (k:Q) (h:(Unit->Q)->P:=by intro k;(iterate 10 (refine qE rfl rfl (qk ρ) ?_;intro K hK;go_big_quiet_op;go_big_quiet_on));exact k ()):P:=h (λ_=>k)
theorem QsX {P Q:Prop} (k:Q) (h:(Unit->Q)->P:=by intro k;(iterate 12 (refine qE rfl rfl (qk ρ) ?_;intro K hK;go_big_quiet_op;go_big_quiet_on));exact k ()):P:=h (λ_=>k)
theorem Ny {P Q:Prop} (k:Q) (h:(Unit->Q)->P:=by intro k;(iterate 19 (refine qE rfl rfl (qk ρ) ?_;intro K hK;go_big_quiet_op;go_big_quiet_on));exact k ()):P:=h (λ_=>k)
theorem NA {P Q:Prop} (k:Q) (h:(Unit->Q)->P:=by intro k;(iterate 21 (refine qE rfl rfl (qk ρ) ?_;intro K hK;go_big_quiet_op;go_big_quiet_on));exact k ()):P:=h (λ_=>k)
theorem Qs1 {P Q:Prop} (k:Q) (h:(Unit->Q)->P:=by intro k;(iterate 1 (refine qE rfl rfl (qi σ) ?_;intro K hK;go_big_quiet_op;go_big_quiet_on));exact k ()):P:=h (λ_=>k)
theorem Qs2 {P Q:Prop} (k:Q) (h:(Unit->Q)->P:=by intro k;(iterate 2 (refine qE rfl rfl (qi σ) ?_;intro K hK;go_big_quiet_op;go_big_quiet_on));exact k ()):P:=h (λ_=>k)
theorem Qs3 {P Q:Prop} (k:Q) (h:(Unit->Q)->P:=by intro k;(iterate 3 (refine qE rfl rfl (qi σ) ?_;intro K hK;go_big_quiet_op;go_big_quiet_on));exact k ()):P:=h (λ_=>k)
theorem Qs4 {P Q:Prop} (k:Q) (h:(Unit->Q)->P:=by intro k;(iterate 4 (refine qE rfl rfl (qi σ) ?_;intro K hK;go_big_quiet_op;go_big_quiet_on));exact k ()):P:=h (λ_=>k)
theorem Qs5 {P Q:Prop} (k:Q) (h:(Unit->Q)->P:=by intro k;(iterate 5 (refine qE rfl rfl (qi σ) ?_;intro K hK;go_big_quiet_op;go_big_quiet_on));exact k ()):P:=h (λ_=>k)
theorem Qs6 {P Q:Prop} (k:Q) (h:(Unit->Q)->P:=by intro k;(iterate 6 (refine qE rfl rfl (qi σ) ?_;intro K hK;go_big_quiet_op;go_big_quiet_on));exact k ()):P:=h (λ_=>k)
theorem Qs7 {P Q:Prop} (k:Q) (h:(Unit->Q)->P:=by intro k;(iterate 7 (refine qE rfl rfl (qi σ) ?_;intro K hK;go_big_quiet_op;go_big_quiet_on));exact k ()):P:=h (λ_=>k)
theorem Qs8 {P Q:Prop} (k:Q) (h:(Unit->Q)->P:=by intro k;(iterate 8 (refine qE rfl rfl (qi σ) ?_;intro K hK;go_big_quiet_op;go_big_quiet_on));exact k ()):P:=h (λ_=>k)
theorem Qs9 {P Q:Prop} (k:Q) (h:(Unit->Q)->P:=by intro k;(iterate 9 (refine qE rfl rfl (qi σ) ?_;intro K hK;go_big_quiet_op;go_big_quiet_on));exact k ()):P:=h (λ_=>k)
theorem Nx {P Q:Prop} (k:Q) (h:(Unit->Q)->P:=by intro k;(iterate 10 (refine qE rfl rfl (qi σ) ?_;intro K hK;go_big_quiet_op;go_big_quiet_on));exact k ()):P:=h (λ_=>k)
theorem Nz {P Q:Prop} (k:Q) (h:(Unit->Q)->P:=by intro k;(iterate 12 (refine qE rfl rfl (qi σ) ?_;intro K hK;go_big_quiet_op;go_big_quiet_on));exact k ()):P:=h (λ_=>k)
theorem NE {P Q:Prop} (k:Q) (h:(Unit->Q)->P:=by intro k;(iterate 13 (refine qE rfl rfl (qi σ) ?_;intro K hK;go_big_quiet_op;go_big_quiet_on));exact k ()):P:=h (λ_=>k)
theorem QqX {P Q:Prop} (k:Q) (h:(Unit->Q)->P:=by intro k;(iterate 14 (refine qE rfl rfl (qi σ) ?_;intro K hK;go_big_quiet_op;go_big_quiet_on));exact k ()):P:=h (λ_=>k)
theorem ND {P Q:Prop} (k:Q) (h:(Unit->Q)->P:=by intro k;(iterate 19 (refine qE rfl rfl (qi σ) ?_;intro K hK;go_big_quiet_op;go_big_quiet_on));exact k ()):P:=h (λ_=>k)
theorem kX {w:World} {cs:Array Value} {t B:Nat} (d:B=w.heap.size): ∀j u,cs.toList[j]? =some u->(w.alloc (.cells cs t)).cell? ⟨B,j,none⟩=some u:=by
 intro j u h;subst d;exact qb (qj w _) j (by simpa using h)
theorem ZI (s:LnS) (h:KM s) (acc:Bool) (w:World):Calls prog 162 #[θ #[ι s.most,ι s.row,s.gone],acc] w λe w'=>e= .returned (.tuple #[θ #[ι s.most,ι (jo s acc).1,μ (jo s acc).2.1],μ (jo s acc).2.2])/\qa w w':=by
 obtain⟨d,G,H,_,_⟩:=h;cases hg:s.gone with
 | true=>
  have e:jo s acc=(s.row,true,false):=by unfold jo;rw[if_pos hg]
  rw[e];exact UL s.most s.row acc w
 | false=>
  cases acc with
  | true=>
   have e:jo s true=(0,false,false):=by unfold jo;rw[if_neg (by rw[hg];decide),if_pos rfl]
   rw[e];exact Pj s.most s.row w
  | false=>
   have e:jo s false=(s.row+1,s.row+1==s.most,s.row+1==s.most):=by unfold jo;rw[if_neg (by rw[hg];decide),if_neg ζ]
   rw[e];exact BD s.most s.row τ τ _ _ rfl rfl w
theorem Vx (s:LnS) (h:KM s) (acc:Bool) (s':LnS) (e:s'.most=s.most/\s'.row=(jo s acc).1/\s'.gone=(jo s acc).2.1/\s'.rw=s.rw):KM s':=by
 obtain⟨M,N,J,O,U⟩:=h;obtain⟨d,G,H,I⟩:=e;unfold jo at G H;refine⟨by rw[d];exact M, ?_, ?_,by rw[I];exact O,by rw[I];exact U⟩
 ·rw[d,G];cases hg:s.gone with
  | true=>simpa using N
  | false=>
   have:=J hg;cases acc<;>simp<;>omega
 ·rw[d,G,H];cases hg:s.gone with
  | true=>simp
  | false=>
   have:=J hg;cases acc<;>simp<;>omega
section
variable {N:Nat->Prop} {w w':World} {k:LnB} {vo:Value} {s s':LnS}
theorem Ze (h:LnX N w k vo s) (acc:Bool) (G:vC s 3=false):Calls prog 127 #[γ k.L,acc] w λe w'=>e= .returned (.tuple #[ι 0,ι 0,false])/\qa w w':=by
 have d:=Jy h;rw[G] at d;have d:=κ d;clear G h
 go_enter func127,ntmps127
 go_wp2_with (go_at_call 64;(go_call d.o as e w1 ⟨rfl,H⟩;have I:=κ H;clear H))
 refine bodyPost_ret (v:= .tuple #[ι 0,ι 0,false]) (by simp[results,results127,go_sem]) rfl ?_;exact⟨rfl,I.o⟩
theorem YN (h:LnX N w k vo s) (bg:s.W.length<=1000000) (o:Int×List Int) (T:List (Int×List Int)) (aB:s.C=o::T) (ae:Int) (g':Bool) (aC:jo s true=(ae,g',false)):
  Calls prog 127 #[γ k.L,true] w λe w'=>e= .returned (.tuple #[ι o.1,ι 1,true])/\ ∃vo',LnX (xf N w w') w' k vo' {s with C:=T,W:=s.W++[o],row:=ae,gone:=g'}/\qg N w w':=by
 have I:=κ h;have bD:=κ bg;have ag:=Jy h;have bj:vC s 3=true:=by
  show decide (0<s.C.length)=true;rw[aB];simp
 rw[bj] at ag;have ag:=κ ag;obtain⟨bd,cC,aU,aV,aS,aT,aW,ah,az⟩:=h.r3;rw[aB] at az;obtain⟨c,q,rfl,aA,aO⟩:=az.uncons;have AQ:=κ aO;have bt:=κ aA;obtain⟨v0,rfl,⟨U,O,rfl,bV⟩,bW,bX⟩:=aA.read;have bx:=κ ah;have cx:k.R3<w.heap.size:=qn ah.ring;have ct:k.A3<w.heap.size:=qn ah.row;have aJ:=κ h.dist;have aE:=ZI s h.ok true;have bk:=Vx s h.ok true {s with C:=T,W:=s.W++[o],row:=ae,gone:=g'} (by rw[aC];exact⟨rfl,rfl,rfl,rfl⟩);rw[aC] at aE;have bA:=κ aE;have bB:=κ bk;clear aE bk aC;clear h bj ah aA aO az bg aB bV bW bX
 go_enter func127,ntmps127
 go_wp2_with (first | (go_at_call 64;(go_call ag.o as e w1 ⟨rfl,an⟩;have bF:=κ an;have av:=κ (qc an I.o.blk);have aK:=κ (bx.o.more an);clear an;have cu:k.L<w1.heap.size:=qn av.o;have c3:w1.cell? ⟨k.L,3,none⟩=some (π (some ⟨k.R3,0,none⟩)):=qb av.o 3 rfl)) | (go_at_call 160;(go_call F9 w1 k.R3 k.A3 s.room bd _ q aU aV aS aT aW aK.o as e w2 ⟨rfl,ao⟩;have ay:Hid (qa w w2):=κ (bF.o.trans ao);have aw:=κ (qc ao av.o);have bw:=κ (aK.o.more ao);clear ao;have cv:k.L<w2.heap.size:=qn aw.o;have c3:w2.cell? ⟨k.L,3,none⟩=some (π (some ⟨k.R3,0,none⟩)):=qb aw.o 3 rfl)) | (go_at_call 161;(go_call Na (w2.alloc (.cells #[ι o.1,δ U o.2.length O] 107)) k.R3 k.A3 s.room bd _ q aU aV aS aT aW (bw.o.more (qa.alloc _ _)) as e H ⟨rfl,⟨co,be⟩,a3⟩;have bz:=κ be;have A3:Hid (qg (RgB k.R3 k.A3) w H):=κ (((qg.of_more ay.o).alc _).trans a3);have aI:Hid (H.heap[k.L]? =some (.cells (jQ k vo s) 184 (0,0))):=κ (a3.blk (qs aw.o _) (by obtain⟨⟨aX,aY,aZ,ba,bb,bc⟩,_⟩:=aJ.o;rintro(e | e)<;>omega));have aM:Hid (H.heap[w2.heap.size]? =some (.cells #[ι o.1,δ U o.2.length O] 107 (0,0))):=κ (a3.blk (qj w2 _) (by have:=ay.o.size;rintro(e | e)<;>omega));clear be a3)))
 have al: ∀b,vo.ownBlock=some b->N b/\ ¬k.muts b:=λb d=>I.o.vob d
 have bn: ∀b,vo.ownBlock=some b->b<w.heap.size:=λb d=>I.o.own b (al b d).1
 have z3:w.heap.size<=H.heap.size:=A3.o.size;have cE:w.heap.size<=w2.heap.size:=ay.o.size;have bo: ¬vo.ownBlock=some k.L:=λe=>(al _ e).2 (Or.inl rfl)
 have bq: ¬vo.ownBlock=some w2.heap.size:=λe=>by have:=bn _ e;omega
 have bC:=κ al;clear al bn;obtain⟨ce,hi,bZ,ca,cb⟩:=info_parts (P:=prog) (e:=107) (z:= Γs) (size:=2) (bytes:=32) ξ;have bE:=λ(x:qz (λb=>vo.ownBlock=some b) H)=>β0 (x.h.blk aI.o bo)
 have aL: ∀x:qz (λb=>vo.ownBlock=some b) H,x.w'.rangeAt w2.heap.size 0 [ι o.1,δ U o.2.length O]:=λx=>xy (x.h.blk aM.o bq)
 refine QN (λb=>vo.ownBlock=some b) H 12 13 [7,8,9,10,12] ?_
 refine Qs6 ?_
 refine jh rfl rfl (qi σ) 107 (.tmp 7) rfl w2.heap.size 0 rfl [ι o.1,δ U o.2.length O] _ (λw' am=>by obtain⟨x,rfl⟩:=am;exact aL x) underlying107 rfl ξ ?_;intro K G;go_simp;refine G _ ?_;clear G K bE aL
 (refine Ql ?_;intro K G)
 refine⟨qi (((qg.refl _ H).drewN 1).alc _),G _ _ ?_⟩;clear G K;have aq:Hid (qg (RgB k.R3 k.A3) w ((H.drewN 1).alloc (.cells #[ι o.1,δ U o.2.length O] 107))):=κ ((A3.o.drewN 1).alc _);have ak: ∀b,RgB k.R3 k.A3 b->k.muts b:=λb d=>Or.inr (Or.inr (Or.inr d))
 have bs:=(I.o.o.step (aq.o.mono λb d _=>ak b d)).widen (D':=λb=>(N b∨w.heap.size<=b)->k.muts b) (λb d=>Or.inl λJ=>d (Or.inl J));have br:jw ROu (λb=>((N b∨w.heap.size<=b)->k.muts b)∨vo.ownBlock=some b) ((H.drewN 1).alloc (.cells #[ι o.1,δ U o.2.length O] 107)) [ι o.1,δ U o.2.length O] o:=(bt.o.step (aq.o.mono λb d=>kZ (ak b d))).other λb d=>by
  rcases d with e | e
  ·exact Or.inl (Or.inl λJ=>e (Or.inl J))
  ·exact Or.inl (Or.inr e)
 refine jR rfl rfl ?_;intro K G
 refine zK (.tmp 35) (.tmp 37) 102 rfl 0 107 ce (Γs) 2 32 underlying102 hi bZ ca cb rfl ζ vo s.W rfl bs H.heap.size [ι o.1,δ U o.2.length O] o rfl rfl (kX rfl) (by simp[Value.oneCell']) br (λb d=>by
  by_cases am:b<w.heap.size
  ·have:=aq.o.size;omega
  ·have:=I.o.own b (I.o.muts b (d (Or.inr τ)));omega) ζ (by have:=bD.o;omega) (Nat.zero_le _) ?_
 intro v6 w6 aD bi bh;have bH:=κ aD;have bI:=κ bh;have Y:Hid (qg (λb=>vo.ownBlock=some b) H w6):=κ ((((qg.refl _ H).drewN 1).alc _).trans (qg.of_grown bi));have ax:=κ (Y.o.blk aI.o bo);have bJ:=κ (Y.o.blk aM.o bq);obtain⟨ad,ab,aa,rfl,bS,bT⟩:=aD.shape;clear aD bi bh bs br bS bT;have bL:w6.cell? ⟨k.L,0,none⟩=some vo:=qb ax.o 0 rfl;have bO:w6.frozen? ⟨k.L,0,none⟩=false:=qd ax.o 0;refine⟨qi Y.o,G _ _ ?_⟩;clear G K;go_simp
 (refine Ql ?_;intro K G)
 refine⟨qi Y.o,G _ _ ?_⟩;clear G K
 (refine Ql ?_;intro K G)
 refine⟨qi Y.o,G _ _ ?_⟩;clear G K
 iterate 1 (refine qE rfl rfl (qi Y.o) ?_;intro K G;go_big_quiet_op;go_big_quiet_on)
 (refine Qe ?_;intro K G)
 refine G _ _ ?_;clear G K;refine qA ?_;obtain⟨W7,ai⟩:=ν (w6.setCell ⟨k.L,0,none⟩ (δ ad ab aa));have aG:Hid (qg (λb=>b=k.L) w6 W7):=κ (by rw[<-ai];exact(qg.refl (λb=>b=k.L) w6).set (p:=⟨k.L,0,none⟩) rfl _);have bp: ¬w2.heap.size=k.L:=by omega
 have af:Hid (W7.heap[k.L]? =some (.cells (jQ k (δ ad ab aa) s) 184 (0,0))):=κ (by rw[<-ai];exact qB (qp ax.o 0 _) rfl);have bK:=κ (aG.o.blk bJ.o bp);rw[ai];clear ai bL bO;have aP:W7.cell? ⟨k.L,13,none⟩=some (ι s.most):=qb af.o 13 rfl;have aQ:W7.cell? ⟨k.L,14,none⟩=some (ι s.row):=qb af.o 14 rfl;have aR:W7.cell? ⟨k.L,15,none⟩=some (μ s.gone):=qb af.o 15 rfl;have bp: ¬w2.heap.size=k.L:=by omega
 go_wp2_with (go_at_call 162;(go_call bA.o _ as e w8 ⟨rfl,ap⟩;have bG:=κ ap;have M:=κ (qc ap af.o);have aN:=κ (qc ap bK.o);clear ap;have cw:k.L<w8.heap.size:=qn M.o;have cy:w2.heap.size<w8.heap.size:=qn aN.o;have cD:w8.cell? ⟨w2.heap.size,0,none⟩=some (ι o.1):=qb aN.o 0 rfl;have aP:w8.cell? ⟨k.L,13,none⟩=some (ι s.most):=qb M.o 13 rfl;have aQ:w8.cell? ⟨k.L,14,none⟩=some (ι s.row):=qb M.o 14 rfl;have aR:w8.cell? ⟨k.L,15,none⟩=some (μ s.gone):=qb M.o 15 rfl;have bP:w8.frozen? ⟨k.L,13,none⟩=false:=qd M.o 13;have bQ:w8.frozen? ⟨k.L,14,none⟩=false:=qd M.o 14;have bR:w8.frozen? ⟨k.L,15,none⟩=false:=qd M.o 15))
 refine bodyPost_ret (v:= .tuple #[ι o.1,ι 1,true]) (by simp[results,results127,go_sem]) rfl ?_;obtain⟨WF,aj⟩:=ν ((((w8.setCell ⟨k.L,13,none⟩ (ι s.most)).setCell ⟨k.L,14,none⟩ (ι ae)).setCell ⟨k.L,15,none⟩ (μ g')).alloc (.cells #[ι s.most,ι ae,g'] 182));have bu:qg (λb=>b=k.L) w8 WF:=by rw[<-aj];exact((((qg.refl (λb=>b=k.L) w8).set (p:=⟨k.L,13,none⟩) rfl _).set (p:=⟨k.L,14,none⟩) rfl _).set (p:=⟨k.L,15,none⟩) rfl _).alc _
 have bv:WF.heap[k.L]? =some (.cells (jQ k (δ ad ab aa) {s with C:=T,W:=s.W++[o],row:=ae,gone:=g'}) 184 (0,0)):=by rw[<-aj];exact qs (qB (qp (qp (qp M.o 13 _) 14 _) 15 _) rfl) _
 rw[aj];clear aj aP aQ aR bP bQ bR;have aH:qg (λb=>b=k.L) w6 WF:=(aG.o.more bG.o).trans bu;have aF:qg (λb=>b=k.L∨vo.ownBlock=some b) H WF:=(Y.o.mono λb d=>Or.inr d).trans (aH.mono λb d=>Or.inl d);have au:qg (λb=>(b=k.L∨vo.ownBlock=some b)∨RgB k.R3 k.A3 b) w WF:=(A3.o.mono λb d=>Or.inr d).trans (aF.mono λb d=>Or.inl d);obtain⟨⟨aX,aY,aZ,ba,bb,bc⟩,⟨cp,cq,cr,bM,bN⟩,⟨cz,cA,cc,cd⟩,⟨cB,cf,cg⟩,⟨ch,ci⟩,_⟩:=aJ.o;have ac: ∀b,k.muts b-> ¬vo.ownBlock=some b:=λb d e=>(bC.o _ e).2 d
 have ar:qg (lnM k vo) w WF:=au.mono λb d=>by
  rcases d with (e | e) | e
  ·exact Or.inl (Or.inl e)
  ·exact Or.inr e
  ·exact Or.inl (ak b e)
 have bm: ∀b,(δ ad ab aa).ownBlock=some b->vo.ownBlock=some b∨w.heap.size<=b:=λb d=>by
  rcases bI.o with e | e
  ·exact Or.inl (by rw[<-e];exact d)
  ·rw[d] at e;injection e with e
   subst e;exact Or.inr (by have:=z3;simp;omega)
 have bf: ∀b,((b=k.L∨vo.ownBlock=some b)∨RgB k.R3 k.A3 b)->lnE N k vo b:=λb d=>by
  rcases d with (e | e) | e
  ·exact kZ (Or.inl e)
  ·exact Or.inr e
  ·exact kZ (ak b e)
 have bl: ∀b,lnE (xf N w WF) k (δ ad ab aa) b->lnE N k vo b∨WF.heap.size<=b:=λb d=>Or.inl (xE I.o.own bm d)
 have bU:je 2 ROu (lnD (xf N w WF) k) WF 0 107 (δ ad ab aa) (s.W++[o]):=(bH.o.step (aH.mono λb d _=>Or.inl d)).widen λb d=>by
  by_cases am:b<WF.heap.size
  ·refine Or.inl λJ=>d ?_
   rcases J with J | J
   ·exact Or.inl J
   ·exact Or.inr ⟨J,am⟩
  ·exact Or.inr τ
 have cj: ¬k.R1=k.L:=Ne.symm aX;have n2: ¬k.A1=k.L:=Ne.symm aY;have ck: ¬k.R2=k.L:=Ne.symm aZ;have cl: ¬k.A2=k.L:=Ne.symm ba;have cm: ¬k.R3=k.L:=Ne.symm bb;have cn: ¬k.A3=k.L:=Ne.symm bc;refine⟨rfl,_,I.o.make ar.size bv (I.o.r1.step au ?_ ?_ bf bl) (I.o.r2.step au ?_ ?_ bf bl) ⟨_,_,_,_,_,_,_,bz.o.away aF ?_ ?_,AQ.o.mono λc y bY=>I.o.held bY ar bm⟩ bU bB.o,ar.mono λb d=>I.o.inN d⟩
 ·rintro((e | e) | (e | e));exact cj e;exact ac _ (Or.inr (Or.inl (Or.inl rfl))) e;exact bM e;exact bN e
 ·rintro((e | e) | (e | e));exact n2 e;exact ac _ (Or.inr (Or.inl (Or.inr rfl))) e;exact cc e;exact cd e
 ·rintro((e | e) | (e | e));exact ck e;exact ac _ (Or.inr (Or.inr (Or.inl (Or.inl rfl)))) e;exact cf e;exact cg e
 ·rintro((e | e) | (e | e));exact cl e;exact ac _ (Or.inr (Or.inr (Or.inl (Or.inr rfl)))) e;exact ch e;exact ci e
 ·rintro(e | e);exact cm e;exact ac _ (Or.inr (Or.inr (Or.inr (Or.inl rfl)))) e
 ·rintro(e | e);exact cn e;exact ac _ (Or.inr (Or.inr (Or.inr (Or.inr rfl)))) e
def DF (s:LnS) (j:Nat):LnS:={s with A:=if 1<j then [] else s.A,B:=if 2<j then [] else s.B,C:=if 3<j then [] else s.C}
theorem PU (s:LnS) (j:Nat) (h:1<=j/\j<=3):vh (DF s j) j=DF s (j+1):=by
 obtain⟨d,G⟩:=h
 match j,d,G with
 | 1,_,_=>rfl
 | 2,_,_=>rfl
 | 3,_,_=>rfl
theorem wA (h:LnX N w k vo s) (bb:s.W.length<=1000000) (o:Int×List Int) (T:List (Int×List Int)) (ak:s.C=o::T) (H:Int) (g':Bool) (z:Bool) (am:jo s false=(H,g',z)):
  Calls prog 127 #[γ k.L,false] w λe w'=>e= .returned (.tuple #[ι o.1,ι (if z then 7 else 0),true])/\LnX (xf N w w') w' k vo (if z then DF {s with row:=H,gone:=g'} 4 else {s with row:=H,gone:=g'})/\qg N w w':=by
 have G:=κ h;have U:=Jy h;have aD:vC s 3=true:=by
  show decide (0<s.C.length)=true;rw[ak];simp
 rw[aD] at U;have U:=κ U;obtain⟨aX,br,aU,aV,aS,aT,aW,aB,ai⟩:=h.r3;rw[ak] at ai;obtain⟨c,q,rfl,aj,aR⟩:=ai.uncons;have bj:=κ aj;obtain⟨v0,rfl,⟨aG,aA,rfl,be⟩,bf,bg⟩:=aj.read;have aI:=κ aB;have an:=ZI s h.ok false;have aE:=Vx s h.ok false {s with row:=H,gone:=g'} (by rw[am];exact⟨rfl,rfl,rfl,rfl⟩);rw[am] at an;have aK:=κ an;have au:=κ aE;clear an aE am;clear h aD aB aj aR ai bb ak be bf bg
 go_enter func127,ntmps127
 cases z
 all_goals
  go_wp2_with (first | (go_at_call 64;(go_call U.o as e w1 ⟨rfl,ac⟩;have aN:=κ ac;have ag:=κ (qc ac G.o.blk);have ar:=κ (aI.o.more ac);clear ac;have bl:k.L<w1.heap.size:=qn ag.o;have c3:w1.cell? ⟨k.L,3,none⟩=some (π (some ⟨k.R3,0,none⟩)):=qb ag.o 3 rfl)) | (go_at_call 160;(go_call F9 w1 k.R3 k.A3 s.room aX _ q aU aV aS aT aW ar.o as e w2 ⟨rfl,ad⟩;have aw:Hid (qa w w2):=κ (aN.o.trans ad);have I:=κ (qc ad ag.o);have bk:=κ (ar.o.more ad);clear ad;have bm:k.L<w2.heap.size:=qn I.o;have c3:w2.cell? ⟨k.L,3,none⟩=some (π (some ⟨k.R3,0,none⟩)):=qb I.o 3 rfl;have ax:w2.cell? ⟨k.L,13,none⟩=some (ι s.most):=qb I.o 13 rfl;have ay:w2.cell? ⟨k.L,14,none⟩=some (ι s.row):=qb I.o 14 rfl;have az:w2.cell? ⟨k.L,15,none⟩=some (μ s.gone):=qb I.o 15 rfl)) | (go_at_call 162;(go_call aK.o (w2.alloc (.cells #[ι o.1,δ aG o.2.length aA] 107)) as e w8 ⟨rfl,ae⟩;have aO:Hid (qa w w8):=κ ((aw.o.al _).trans ae);have d:=κ (qc ae (qs I.o _));have Y:=κ (qc ae (qj w2 (.cells #[ι o.1,δ aG o.2.length aA] 107)));clear ae;have bn:k.L<w8.heap.size:=qn d.o;have bo:w2.heap.size<w8.heap.size:=qn Y.o;have bs:w.heap.size<=w2.heap.size:=aw.o.size;have bi: ¬w2.heap.size=k.L:=τ;have aH:w8.cell? ⟨w2.heap.size,0,none⟩=some (ι o.1):=qb Y.o 0 rfl;have ax:w8.cell? ⟨k.L,13,none⟩=some (ι s.most):=qb d.o 13 rfl;have ay:w8.cell? ⟨k.L,14,none⟩=some (ι s.row):=qb d.o 14 rfl;have az:w8.cell? ⟨k.L,15,none⟩=some (μ s.gone):=qb d.o 15 rfl;have aY:w8.frozen? ⟨k.L,13,none⟩=false:=qd d.o 13;have aZ:w8.frozen? ⟨k.L,14,none⟩=false:=qd d.o 14;have ba:w8.frozen? ⟨k.L,15,none⟩=false:=qd d.o 15)))
  obtain⟨WF,aa⟩:=ν ((((w8.setCell ⟨k.L,13,none⟩ (ι s.most)).setCell ⟨k.L,14,none⟩ (ι H)).setCell ⟨k.L,15,none⟩ (μ g')).alloc (.cells #[ι s.most,ι H,g'] 182));have af:qg (λb=>b=k.L) w8 WF:=by rw[<-aa];exact((((qg.refl (λb=>b=k.L) w8).set (p:=⟨k.L,13,none⟩) rfl _).set (p:=⟨k.L,14,none⟩) rfl _).set (p:=⟨k.L,15,none⟩) rfl _).alc _
  have ah:WF.heap[k.L]? =some (.cells (jQ k vo {s with row:=H,gone:=g'}) 184 (0,0)):=by rw[<-aa];exact qs (qB (qp (qp (qp d.o 13 _) 14 _) 15 _) rfl) _
  rw[aa];clear aa ax ay az aY aZ ba;have J:qg (λb=>b=k.L) w WF:=(qg.of_more aO.o).trans af
 ·refine bodyPost_ret (v:= .tuple #[ι o.1,ι 0,true]) (by simp[results,results127,go_sem]) rfl ?_;exact⟨rfl,G.o.setL J ah ⟨rfl,rfl,rfl,rfl,rfl⟩ au.o,J.mono λb M=>by rw[M];exact G.o.muts _ (Or.inl rfl)⟩
 ·have aM:=κ (G.o.setL J ah ⟨rfl,rfl,rfl,rfl,rfl⟩ au.o);have ap:=κ J;have aP:=κ (af.blk Y.o bi);have bd: ¬k.muts w2.heap.size:=λe=>by have:=G.o.own _ (G.o.muts _ e);omega
  clear J af ah d Y aH
  go_loopw [12] (λt wr=> ∃j:Nat,1<=j/\j<=4/\t= ι j/\LnX (xf N w wr) wr k vo (DF {s with row:=H,gone:=g'} j)/\qg k.muts WF wr) (λt _=>4-(intOf t).toNat)
  case atStart=>exact⟨1,τ,τ,rfl,aM.o,qg.refl _ _⟩
  case round=>
   obtain⟨j,bc,bp,rfl,aC,ab⟩:=hrel;have av:=κ aC;have aq:=κ ab;have bh:Hid (w.heap.size<=wr.heap.size):=κ (Nat.le_trans ap.o.size ab.size);have aQ:=κ (ab.blk aP.o bd);have aH:wr.cell? ⟨w2.heap.size,0,none⟩=some (ι o.1):=qb aQ.o 0 rfl;clear aC ab;by_cases hlt:j<=3
   ·have bq:(j:Int)<=3:=by omega
    have aF:(j:Int)=1∨(j:Int)=2∨(j:Int)=3:=by omega
    have aJ:=κ (Cm av.o j aF);clear aF
    go_wp2_with (go_at_call 132;(go_call aJ.o as e w9 ⟨⟨v9,rfl⟩,O,a9⟩;have aL:=κ O;have ao:=κ a9;clear O a9))
    go_roundw
    case rel=>
     have O:=aL.o;rw[Wl bh.o ao.o.size,PU _ j ⟨bc,hlt⟩] at O;exact⟨j+1,τ,τ,by go_num,O,aq.o.trans ao.o⟩
    case measure=>simp[intOf];omega
   ·obtain rfl:j=4:=by omega
    go_wp2;refine bodyPost_ret (v:= .tuple #[ι o.1,ι 7,true]) (by simp[results,results127,go_sem]) rfl ?_;exact⟨rfl,av.o,(ap.o.mono λb M=>by rw[M];exact G.o.muts _ (Or.inl rfl)).trans (aq.o.mono λb M=>G.o.muts b M)⟩
theorem Ar (h:LnX N w k vo s) (I:s.W.length<=1000000) (acc:Bool):Calls prog 127 #[γ k.L,acc] w λe w'=>e= .returned (.tuple #[ι (qX s acc).2.1,ι (qX s acc).2.2.1,μ (qX s acc).2.2.2])/\ ∃vo',LnX (xf N w w') w' k vo' (qX s acc).1/\qg N w w':=by
 cases hC:s.C with
 | nil=>
  have e:qX s acc=(s,0,0,false):=by unfold qX;rw[hC]
  rw[e];refine(Ze h acc (by show decide (0<s.C.length)=false;rw[hC];rfl)).mono ?_;rintro e w' ⟨rfl,m⟩;exact⟨rfl,vo,h.grow m,qg.of_more m⟩
 | cons o T=>
  rcases ho:jo s acc with ⟨d,g',b⟩
  cases b with
  | true=>
   have J:acc=false:=by
    cases acc with
    | false=>rfl
    | true=>
     unfold jo at ho;split at ho<;>simp at ho
   subst J;have e:qX s false=(DF {s with row:=d,gone:=g'} 4,o.1,7,true):=by unfold qX;rw[hC];simp only[ho];rfl
   rw[e];refine(wA h I o T hC d g' true ho).mono ?_;rintro e w' ⟨rfl,G,H⟩;exact⟨rfl,vo,G,H⟩
  | false=>
   cases acc with
   | true=>
    have e:qX s true=({s with C:=T,W:=s.W++[o],row:=d,gone:=g'},o.1,1,true):=by unfold qX;rw[hC];simp only[ho];rfl
    rw[e];exact YN h I o T hC d g' ho
   | false=>
    have e:qX s false=({s with row:=d,gone:=g'},o.1,0,true):=by unfold qX;rw[hC];simp only[ho];simp[hC]
    rw[e];refine(wA h I o T hC d g' false ho).mono ?_;rintro e w' ⟨rfl,G,H⟩;exact⟨rfl,vo,G,H⟩
end
theorem QZ {α:Type} (d:α) (p:Nat->α->Prop): ∀m,(∀i,i<m-> ∃c,p i c)-> ∃l:List α,l.length=m/\ ∀i,i<m->p i (l.getD i d)
 | 0,_=>⟨[],rfl,λi hi=>absurd hi τ⟩
 | m+1,h=>by
  obtain⟨l,G,I⟩:=QZ d p m λi hi=>h i τ
  obtain⟨c,H⟩:=h m τ;refine⟨l++[c],by simp[G],λi hi=> ?_⟩;by_cases e:i<m
  ·have:=I i e;rw[List.getD_eq_getElem?_getD] at this ⊢;rw[List.getElem?_append_left τ];exact this
  ·obtain rfl:i=m:=by omega
   rw[List.getD_eq_getElem?_getD,List.getElem?_append_right τ,G]
   simpa using H
theorem Q0 {n:Nat}: ∀(css:List (List Value)),(∀c∈css,c.length=n)->css.flatten.length=css.length* n
 | [],_=>by simp
 | c::css,h=>by
  rw[List.flatten_cons,List.length_append,Q0 css λd G=>h d (by simp[G]),h c η,List.length_cons,Nat.add_mul];omega
theorem Q3 {n:Nat}: ∀(css:List (List Value)) (i j:Nat),(∀c∈css,c.length=n)->i<css.length->j<n->css.flatten[i* n+j]? =(css.getD i [])[j]?
 | [],_,_,_,h,_=>absurd h η
 | c::css,0,j,hl,_,hj=>by
  have:=hl c η;rw[List.flatten_cons,Nat.zero_mul,Nat.zero_add,List.getElem?_append_left τ];rfl
 | c::css,i+1,j,hl,hi,hj=>by
  have d:=hl c η;rw[List.flatten_cons,List.getElem?_append_right (by rw[d,Nat.add_mul];omega),d,show (i+1)* n+j-n=i* n+j by rw[Nat.add_mul];omega];exact Q3 css i j (λG H=>hl G (by simp[H])) (by simpa using hi) hj
theorem ym {P:Program} (Y w:World) {ops:Array Oper} {rest:List Oper} {o:Oper} {a:Act} {Q:Exit->Act->World->Prop} (an:o.guard=none) (s x:Operand) (t:TypeId)
  (aq:o.op= .call {callee:= .builtin .append,args:= #[s,x],argTypes:= #[t,t]})
  (base:Nat) (e:TypeId) (i:TypeInfo) (z:Value) (n bytes:Nat) (av:P.underlying t=some (.slice e)) (hi:P.info? e=some i) (aW:i.zero=some z)
  (aS:i.size=n) (aG:i.bytes=bytes) (aX:z.cells.size=n) (aj:0<n)
  {α:Type} {R:qL α} (aE:QQ R) (aR: ∀w cs y,R w cs y-> ∀u∈cs,u.oneCell'=true)
  (v:Value) (L:List α) (U:a.eval s=v) (ar:je n R (λ_=>False) w base e v L)
  (ax:Value) (d:List α) (aw:a.eval x=ax) (aM:SlP n R Y ax d) (ap:qa Y w) (aV: ∀b,v.ownBlock=some b->Y.heap.size<=b)
  (ba:1<=bytes) (aH:(L.length+d.length)* bytes<=140737488355328) (aF:base<=w.heap.size)
  (h: ∀v' w',je n R (λ_=>False) w' base e v' (L++d)->w.grownBy w' v.ownBlock->(v'.ownBlock=v.ownBlock∨v'.ownBlock=some w.heap.size)->wpList P ops Q rest (a.put o.dst v') w'):wpList P ops Q (o::rest) a w:=by
 have aD:L.length+d.length<=maxLen:=by
  have:=Nat.le_mul_of_pos_right (L.length+d.length) (show 0<bytes by omega);unfold maxLen;omega
 obtain⟨aY,cap,rfl,bc,aN,bd,be,aO⟩:=aM;obtain⟨⟨xs,ae,aK⟩,aZ⟩:=id ar;cases aY with
 | none=>
  have ah:cap=0:=aO rfl;subst ah;have aP:d=[]:=List.eq_nil_of_length_eq_zero τ;subst aP;refine wpList_append_own_none an s x t aq base e i n av hi v L.length xs U ae aw ?_;exact h v w (by simpa using ar) ⟨rfl,rfl,rfl,Nat.le_refl _,λ_ _ _=>rfl⟩ (Or.inl rfl)
 | some ad=>
  obtain⟨css,aJ,af⟩:=QZ ([]:List Value) (λk cs=> ∀G:k<d.length,∃b I,ad=⟨b,I,none⟩/\b<Y.heap.size/\cs.length=n/\(∀j,j<n->Y.cell? ⟨b,I+k* n+j,none⟩=cs[j]?)/\R Y cs d[k]) d.length (λk G=>by
   obtain⟨b,I,cs,ay,aB,aa,aC,N⟩:=aN k G
   exact⟨cs,λ_=>⟨b,I,by injection ay,aB,aa,aC,N⟩⟩)
  have ao: ∀c∈css,c.length=n:=λc ac=>by
   obtain⟨k,G,rfl⟩:=List.mem_iff_getElem.1 ac;obtain⟨_,_,_,_,aa,_⟩:=af k τ τ;rw[List.getD_eq_getElem?_getD,List.getElem?_eq_getElem G] at aa;exact aa
  have am:css.flatten.length=d.length* n:=by rw[Q0 css ao,aJ]
  have al: ∀k j,k<d.length->j<n->css.flatten[k* n+j]? =(css.getD k [])[j]? :=λk j G M=>Q3 css k j ao τ M
  refine wpList_append_own_at w an s x t aq base e i z n bytes av hi aW aS aG aX aj v L.length xs U ae ad d.length cap css.flatten aw am ?_ ?_ aD aH aF ?_
  ·intro j u M;have aL:j<d.length* n:=by rw[<-am];exact(List.getElem?_eq_some_iff.1 M).1
   have ak:j/n<d.length:=by rw[Nat.div_lt_iff_lt_mul aj];exact aL
   have au:j%n<n:=Nat.mod_lt _ aj;have aA:j/n* n+j%n=j:=by rw[Nat.mul_comm];exact Nat.div_add_mod j n
   obtain⟨b,I,rfl,H,_,ac,_⟩:=af _ ak ak;have az:(⟨b,I,none⟩:Addr).add j=⟨b,I+j,none⟩:=by
    unfold Addr.add;split
    ·rename_i ah;subst ah;rfl
    ·rfl
   rw[az,ap.cells b _ H,show I+j=I+j/n* n+j%n by omega,ac _ au,<-al _ _ ak au,aA];exact M
  ·intro u aT;obtain⟨c,ac,aU⟩:=List.mem_flatten.1 aT;obtain⟨k,G,rfl⟩:=List.mem_iff_getElem.1 ac;obtain⟨_,_,_,_,_,_,N⟩:=af k τ τ;rw[List.getD_eq_getElem?_getD,List.getElem?_eq_getElem G] at N;exact aR _ _ _ N u aU
  ·intro v' w' aQ J _ O;have aI: ∀k (G:k<(L++d).length),jw R (λk=>False∨v.ownBlock=some k) w (((xs++css.flatten).drop (k* n)).take n) (L++d)[k]:=by
    intro k G;rw[List.length_append] at G;by_cases e:k<L.length
    ·have bb:k* n+n<=L.length* n:=by
      have:(k+1)* n<=L.length* n:=Nat.mul_le_mul_right n e;rw[Nat.add_mul,Nat.one_mul] at this;exact this
     have bf:=ae.1;have ag:((xs++css.flatten).drop (k* n)).take n=(xs.drop (k* n)).take n:=by
      rw[List.drop_append_of_le_length τ,List.take_append_of_le_length (by rw[List.length_drop];omega)]
     rw[ag,List.getElem_append_left e];exact aK k e
    ·have ai:k-L.length<d.length:=by omega
     obtain⟨_,_,_,_,aa,_,N⟩:=af _ ai ai;have ag:((xs++css.flatten).drop (k* n)).take n=css.getD (k-L.length) []:=by
      apply List.ext_getElem?;intro j;rw[List.getElem?_take];split
      ·rename_i M;rw[List.getElem?_drop,<-al _ _ ai M,List.getElem?_append_right (by rw[ae.1];have:=Nat.mul_le_mul_right n (show L.length<=k by omega);omega),ae.1]
       congr 1
       rw[Nat.sub_mul];have:=Nat.mul_le_mul_right n (show L.length<=k by omega);omega
      ·rename_i M;exact(List.getElem?_eq_none_iff.2 τ).symm
     rw[ag,List.getElem_append_right τ];exact(jw.old aE N (λb H=>by rcases H with H | H;exact absurd H id;exact aV b H)).on ap
   refine h v' w' ⟨⟨xs++css.flatten,by rw[List.length_append];exact aQ,λk G w'' a'=> ?_⟩,λ_ _=>id⟩ J O;refine aI k G w'' ⟨a'.os.trans J.os,a'.tape.trans J.tape,a'.output.trans J.output,Nat.le_trans J.size a'.size,λb H U=> ?_⟩;rw[a'.block b (Nat.lt_of_lt_of_le H J.size) ?_]
   ·exact J.block b H (λe=>U (Or.inr e.symm))
   ·rintro(ab | ab)
    ·exact U (Or.inl ab)
    ·rcases O with O | O
     ·exact U (Or.inr (by rw[<-O];exact ab))
     ·rw[O] at ab;have:w.heap.size=b:=by injection ab
      omega
theorem Ip: ∀(w:World) (cs:List Value) (y:Int×List Int),ROu w cs y-> ∀u∈cs,u.oneCell'=true:=by
 rintro w cs y ⟨v,rfl,⟨G,cap,rfl,_⟩,_⟩ u d;simp at d;rcases d with rfl | rfl<;>rfl
theorem ED (w:World):je 2 ROu (λ_=>False) (w.alloc (.cells #[] 107)) w.heap.size 107 (δ (some ⟨w.heap.size,0,none⟩) 0 0) []:=
 ⟨⟨[],by simpa using World.ownsRow_lit (e:=107) (size:=2) (base:=w.heap.size) w #[] 0 (Nat.le_refl _) (by unfold maxLen;omega) rfl,λi hi=>by simp at hi⟩,λ_ _ h=>h⟩
theorem Fu (v:Value) (l:List (Int×List Int)) (w:World) (h:SlP 2 ROu w v l) (H:l.length<=1000000):
  Calls prog 144 #[v] w λe w'=>(∃v',e= .returned v'/\je 2 ROu (λ_=>False) w' w.heap.size 107 v' l)/\qa w w':=by
 obtain⟨aj,hi,ag,ah,ai⟩:=info_parts (P:=prog) (e:=107) (z:= Γs) (size:=2) (bytes:=32) ξ;have I:=κ h;have ab:=κ H;obtain⟨ak,cap,rfl,J,M,N,O,d⟩:=h;cases ak with
 | none=>
  obtain rfl:cap=0:=d rfl;obtain rfl:l=[]:=List.eq_nil_of_length_eq_zero τ;clear I J M N O d H;have af:=λw=>Lib.run_eql_slice_nil (P:=prog) w 102 107 none 0 0 0 0 underlying102
  go_enter func144,ntmps144
  go_wp2;go_ret;exact⟨⟨_,rfl,je.nil 2 ROu _ _ _ _⟩,qa.refl _⟩
 | some ad=>
  clear J M N O d H;have af:=λw=>Lib.run_eql_slice_nil (P:=prog) w 102 107 (some ad) l.length cap 0 0 underlying102
  go_enter func144,ntmps144
  go_wp2_with (at_builtin;refine ym w _ rfl (.tmp 5) (.tmp 6) 102 rfl w.heap.size 107 aj (Γs) 2 32 underlying102 hi ag ah ai rfl ζ Ff Ip _ [] rfl (ED w) _ l rfl I.o (qa.alloc _ _) (λb G=>by cases G;exact Nat.le_refl _) ζ (by have:=ab.o;simp;omega) (qa.alloc w _).size ?_;intro v2 w2 Y U ae;have ac:=κ Y;have aa:Hid (qg (λb=>(δ (some ⟨w.heap.size,0,none⟩) 0 0).ownBlock=some b) (w.alloc (.cells #[] 107)) w2):=κ (qg.of_grown U);clear Y U ae)
  go_ret;refine⟨⟨_,rfl,by simpa using ac.o⟩, ?_⟩;exact((qg.of_more (S:=λb=>b=w.heap.size) (qa.alloc w _)).trans (aa.o.mono λb G=>by injection G with e;exact e.symm)).to_more (qa.refl _) (λk e=>by rw[e];exact Nat.le_refl _)
theorem Bv {w:World} {base d e n m:Nat} {v:Value} {xs:List Value} (h:w.ownsRow base e n v m xs) (I:d<=base):w.ownsRow d e n v m xs:=by
 obtain⟨G,H⟩:=h;refine⟨G, ?_⟩;rcases H with h | ⟨g,cap,cur,e1,h3,h4⟩
 ·exact Or.inl h
 ·exact Or.inr ⟨g,cap,cur,e1,Nat.le_trans I h3,h4⟩
theorem WP {S:Nat->Prop} {w w':World} {base e n m:Nat} {v:Value} {xs:List Value} (h:w.ownsRow base e n v m xs) (a:qg S w w') (H: ∀b,v.ownBlock=some b-> ¬S b):w'.ownsRow base e n v m xs:=by
 obtain⟨d,G⟩:=h;refine⟨d, ?_⟩;rcases G with h | ⟨g,cap,cur,e1,h3,h4,h5⟩
 ·exact Or.inl h
 ·exact Or.inr ⟨g,cap,cur,e1,h3,a.blk h4 (H g (by rw[e1];rfl)),h5⟩
def zl (w0 w:World) (v:Value) (W:List (Int×List Int)) (j:Nat):Prop:=
 ∃xs,w.ownsRow w0.heap.size 107 2 v W.length xs/\ ∀i (hi:i<W.length),∃u,xs[i* 2]? =some (.int .i64 (W[i].1))/\xs[i* 2+1]? =some u/\
  (∀w',qg (λk=>v.ownBlock=some k) w w'->SlI .u8 w' u (W[i].2))/\(Byt (W[i].2)/\W[i].2.length<=200)/\(i<j->(∀b,u.ownBlock=some b->w0.heap.size<=b/\b<w.heap.size/\v.ownBlock≠some b)/\w.ownsRow w0.heap.size 5 1 u (W[i].2).length ((W[i].2).map (Value.int .u8)))
theorem zl.start {H w:World} {v:Value} {W:List (Int×List Int)} {D:Nat->Prop} (h:je 2 ROu D w H.heap.size 107 v W):zl H w v W 0:=by
 obtain⟨⟨xs,o,r⟩,_⟩:=h;refine⟨xs,o,λi hi=> ?_⟩;obtain⟨u,e,_,I,M⟩:=(r i hi).read;have e0:=congrArg (λl:List Value=>l[0]?) e;have G:=congrArg (λl:List Value=>l[1]?) e;simp at e0 G;refine⟨u,e0,G,λw' a=> ?_,⟨I,M⟩,λh=>absurd h τ⟩;obtain⟨O,d,N,_⟩:=(r i hi) w' (a.mono λk J=>Or.inr J);rw[e] at d;simp at d;rw[d];exact N
theorem zl.more {H w w':World} {v:Value} {W:List (Int×List Int)} {j:Nat} (h:zl H w v W j) (m:qa w w'):zl H w' v W j:=by
 obtain⟨xs,o,r⟩:=h;refine⟨xs,zI o (S:=λ_=>False) (qg.of_more m) (λ_ _ h=>h),λi hi=> ?_⟩;obtain⟨u,I,J,M,N,d⟩:=r i hi;exact⟨u,I,J,λw'' a=>M w'' ((qg.of_more m).trans a),N,λh=>⟨λb G=>⟨((d h).1 b G).1,Nat.lt_of_lt_of_le ((d h).1 b G).2.1 m.size,((d h).1 b G).2.2⟩,zI (d h).2 (S:=λ_=>False) (qg.of_more m) (λ_ _ h=>h)⟩⟩
theorem zl.shape {G w:World} {v:Value} {W:List (Int×List Int)} {j:Nat} (h:zl G w v W j): ∃oa cap,v= δ oa W.length cap:=by
 obtain⟨xs,o,_⟩:=h;rcases o.2 with ⟨rfl,d⟩ | ⟨g,cap,cur,rfl,_⟩
 ·exact⟨none,0,by rw[d]⟩
 ·exact⟨_,cap,rfl⟩
theorem zl.at {I w:World} {H:Option Addr} {n cap:Nat} {W:List (Int×List Int)} {j:Nat} (h:zl I w (δ H n cap) W j) (U:n=W.length) (i:Nat) (hi:i<W.length):
  ∃g,H=some ⟨g,0,none⟩/\I.heap.size<=g/\g<w.heap.size/\ ∃u,w.cell? ⟨g,i* 2,none⟩=some (ι (W[i].1))/\w.cell? ⟨g,i* 2+1,none⟩=some u/\w.frozen? ⟨g,i* 2+1,none⟩=false/\SlI .u8 w u (W[i].2)/\Byt (W[i].2)/\W[i].2.length<=200:=by
 subst U;obtain⟨xs,o,r⟩:=h;obtain⟨g,rfl,d,G⟩: ∃g,H=some ⟨g,0,none⟩/\I.heap.size<=g/\g<w.heap.size:=by
  rcases o.2 with ⟨_,Y⟩ | ⟨g,c,cur,e,d,G,_⟩
  ·omega
  ·injection e with e1
   exact⟨g,e1,d,lt_of_block G⟩
 obtain⟨u,J,M,N,O,_⟩:=r i hi;exact⟨g,rfl,d,G,u,by rw[o.cellAt _ τ];exact J,by rw[o.cellAt _ τ];exact M,o.frozenAt _,N w (qg.refl _ _),O⟩
theorem zl.put {J w w1:World} {g n cap:Nat} {W:List (Int×List Int)} {j:Nat} (h:zl J w (δ (some ⟨g,0,none⟩) n cap) W j) (ac:n=W.length) (aj:j<W.length) (m:qa w w1) (ai:g<w.heap.size) (N:J.heap.size<=w.heap.size) {u:Value}
  (G:w1.ownsRow w.heap.size 5 1 u (W[j].2).length ((W[j].2).map (Value.int .u8))):zl J (w1.setCell ⟨g,j* 2+1,none⟩ u) (δ (some ⟨g,0,none⟩) n cap) W (j+1):=by
 subst ac;obtain⟨xs,o,r⟩:=h.more m;obtain⟨os,ad⟩:=o.stored (j* 2+1) u;have a:qg (λk=>some g=some k) w1 (w1.setCell ⟨g,j* 2+1,none⟩ u):=qg.of_grown ad;have Y:(w1.setCell ⟨g,j* 2+1,none⟩ u).heap.size=w1.heap.size:=by simp
 refine⟨_,os,λi hi=> ?_⟩;obtain⟨ah,O,aa,ab,U,I⟩:=r i hi;have al:xs.length=W.length* 2:=o.1;by_cases e:i=j
 ·subst e;refine⟨u,by rw[List.getElem?_set_ne τ];exact O,by rw[List.getElem?_set_self τ],λw' a'=> ?_,U,λ_=>⟨λb d=>⟨Nat.le_trans N (vV G d),by rw[Y];exact Vg G d,λH=> ?_⟩,Bv (zI G a (λb d e=> ?_)) N⟩⟩
  ·exact(SlI.of_owns G τ).off (D:=λk=>some g=some k) (λb d H=>by have:=vV G d;have M:g=b:=Option.some.inj H;omega) (a.trans a')
  ·have:=vV G d;have M:g=b:=Option.some.inj H;omega
  ·have M:g=b:=Option.some.inj e;omega
 ·refine⟨ah,by rw[List.getElem?_set_ne τ];exact O,by rw[List.getElem?_set_ne τ];exact aa,λw' a'=>ab w' (a.trans a'),U,λak=>⟨λb d=> ?_,WP (I τ).2 a (λb d e=>((I τ).1 b d).2.2 e)⟩⟩;obtain⟨ae,af,ag⟩:=(I τ).1 b d;exact⟨ae,by rw[Y];exact af,ag⟩
def ROn (base:Nat):qL (Int×List Int):=λw cs o=> ∃v,cs=[.int .i64 o.1,v]/\SlI .u8 w v o.2/\Byt o.2/\o.2.length<=200/\(∀b,v.ownBlock=some b->base<=b)/\w.ownsRow base 5 1 v o.2.length (o.2.map (Value.int .u8))
theorem zl.done {I w:World} {v:Value} {W:List (Int×List Int)} (h:zl I w v W W.length):je 2 (ROn I.heap.size) (λb=>b<I.heap.size) w I.heap.size 107 v W:=by
 obtain⟨xs,o,r⟩:=h;refine⟨⟨xs,o,λi hi=> ?_⟩,λb G ac=>by have:=vV o G;omega⟩;obtain⟨u,N,O,U,M,H⟩:=r i hi;have Y:(xs.drop (i* 2)).take 2=[ι (W[i].1),u]:=by
  apply List.ext_getElem?;intro k
  match k with
  | 0=>simpa using N
  | 1=>simpa using O
  | k+2=>
   rw[List.getElem?_eq_none (by rw[List.length_take];omega),List.getElem?_eq_none η]
 intro w' a;refine⟨u,Y, ?_,M.1,M.2,λb G=>((H hi).1 b G).1,WP (H hi).2 a (λb G d=> ?_)⟩
 ·refine(U w (qg.refl _ _)).off (λb G d=> ?_) a;obtain⟨aa,ab,J⟩:=(H hi).1 b G;rcases d with d | d
  ·omega
  ·exact J d
 ·obtain⟨aa,ab,J⟩:=(H hi).1 b G;rcases d with d | d
  ·omega
  ·exact J d
section
variable {N:Nat->Prop} {w w':World} {k:LnB} {vo:Value} {s:LnS}
theorem Ug (h:LnX N w k vo s) (aa:s.W.length<=1000000):Calls prog 90 #[γ k.L] w λe w'=>(∃v,e= .returned v/\je 2 (ROn w.heap.size) (λb=>b<w.heap.size) w' w.heap.size 107 v s.W)/\qa w w':=by
 have ay:w.cell? ⟨k.L,0,none⟩=some vo:=qb h.blk 0 rfl;have ag:=κ (Fu vo s.W w (h.o.sl ζ) aa);have aA:(s.W.length:Int)<=9223372036854775807:=by omega
 clear h aa
 go_enter func90,ntmps90
 go_wp2_with (go_at_call 144;(go_call ag.o as e w1 ⟨⟨v1,rfl,O⟩,ae⟩;have al:=κ (zl.start O);have aj:=κ ae;obtain⟨au,cap,rfl⟩:=(zl.start O).shape;clear O ae))
 go_loopw [12] (λJ wr=> ∃j:Nat,j<=s.W.length/\J= ι j/\zl w wr (δ au s.W.length cap) s.W j/\qa w wr) (λJ _=>s.W.length-(intOf J).toNat)
 case atStart=>exact⟨0,τ,rfl,al.o,aj.o⟩
 case round=>
  obtain⟨j,aB,rfl,ad,ac⟩:=hrel;have d:=κ ad;have H:=κ ac;clear ad ac;by_cases hlt:j<s.W.length
  ·have aC:(j:Int)<(s.W.length:Int):=by omega
   obtain⟨g,rfl,ab,ao,u,aw,ax,aG,I,an,aq⟩:=d.o.at rfl j hlt;have U:=κ ao;have ai:=κ ab;have ah:=κ (wQ u _ wr I τ);have ar:w.heap.size<=wr.heap.size:=H.o.size;obtain⟨av,am,rfl,_⟩:=id I;clear I an aq ab aw
   go_wp2_with (go_at_call 46;(go_call ah.o as e af ⟨⟨v3,rfl,M⟩,G⟩;have ak:=κ M;have Y:=κ G;have aF:af.cell? ⟨g,j* 2+1,none⟩=some (δ av (s.W[j].2).length am):=(by rw[G.cells _ _ U.o];exact ax);have p2:af.frozen? ⟨g,j* 2+1,none⟩=false:=((d.o.more G).at rfl j hlt |>.elim λg' ap=>by obtain⟨e,_,_,_,_,_,f,_⟩:=ap;injection e with e;injection e with e;subst e;exact f);obtain⟨aE,az,rfl⟩:=zA M;clear M G))
   go_roundw
   case rel=>exact⟨j+1,τ,by go_num,d.o.put rfl hlt Y.o U.o ar ak.o,(H.o.trans Y.o).st ai.o _⟩
   case measure=>simp[intOf];omega
  ·obtain rfl:j=s.W.length:=by omega
   have aD: ¬(s.W.length:Int)<(s.W.length:Int):=by omega
   go_wp2;go_ret;exact⟨⟨_,rfl,d.o.done⟩,H.o⟩
end
section
variable {N:Nat->Prop} {w:World} {L:Nat} {s:LnS}
theorem JB (h:zw N w L s):Calls prog 69 #[γ L] w λe w'=>e= .returned (μ s.gone)/\qa w w':=by
 obtain⟨k,vo,rfl,x⟩:=h;exact gF x
theorem Iv (h:zw N w L s) (n:Int) (d:n=1∨n=2∨n=3):Calls prog 64 #[γ L,ι n] w λe w'=>e= .returned (μ (vC s n))/\qa w w':=by
 obtain⟨k,vo,rfl,x⟩:=h;rcases d with rfl | rfl | rfl
 ·exact YA x
 ·exact Yz x
 ·exact Jy x
theorem ES (h:zw N w L s):Calls prog 68 #[γ L] w λe w'=>e= .returned (θ #[ι s.A.length,ι s.B.length,ι s.C.length])/\qa w w':=by
 obtain⟨k,vo,rfl,x⟩:=h;exact ER x
theorem Xb (h:zw N w L s):Calls prog 67 #[γ L] w λe w'=>e= .returned (.tuple #[θ #[ι s.cur,ι s.tgt],s.wanted])/\qa w w':=by
 obtain⟨k,vo,rfl,x⟩:=h;exact AJ x
theorem Ed (h:zw N w L s) (n:Int):Calls prog 77 #[γ L,ι n] w λe w'=>e= .returned (ι (jO s n).2)/\zw (xf N w w') w' L (jO s n).1/\qg N w w':=by
 obtain⟨k,vo,rfl,x⟩:=h;refine(Ec x n).mono ?_;rintro e w' ⟨rfl,d,G⟩;exact⟨rfl,⟨k,vo,rfl,d⟩,G⟩
theorem Df (h:zw N w L s):Calls prog 142 #[γ L] w λe w'=>e= .returned (.tuple #[ι (jf s).2.1,ι (jf s).2.2.1,μ (jf s).2.2.2])/\zw (xf N w w') w' L (jf s).1/\qg N w w':=by
 obtain⟨k,vo,rfl,x⟩:=h;refine(De x).mono ?_;rintro e w' ⟨rfl,d,G⟩;exact⟨rfl,⟨k,vo,rfl,d⟩,G⟩
theorem Uv (h:zw N w L s):Calls prog 143 #[γ L] w λe w'=>e= .returned (.tuple #[ι (qY s).2.1,μ (qY s).2.2.1,μ (qY s).2.2.2])/\zw (xf N w w') w' L (qY s).1/\qg N w w':=by
 obtain⟨k,vo,rfl,x⟩:=h;refine(Uu x).mono ?_;rintro e w' ⟨rfl,d,G⟩;exact⟨rfl,⟨k,vo,rfl,d⟩,G⟩
theorem As (h:zw N w L s) (H:s.W.length<=1000000) (acc:Bool):Calls prog 127 #[γ L,acc] w λe w'=>e= .returned (.tuple #[ι (qX s acc).2.1,ι (qX s acc).2.2.1,μ (qX s acc).2.2.2])/\zw (xf N w w') w' L (qX s acc).1/\qg N w w':=by
 obtain⟨k,vo,rfl,x⟩:=h;refine(Ar x H acc).mono ?_;rintro e w' ⟨rfl,vo',d,G⟩;exact⟨rfl,⟨k,vo',rfl,d⟩,G⟩
theorem Ij (h:zw N w L s) (x:ItS) (os H I:Option Addr) (G ke d:Nat) (U:PkS w (δ os x.pk.ss.length G) (δ H x.pk.ex.length ke) (δ I x.pk.pl.length d) x.pk) (O:uf x.pk) (Y:uj x.pk):
  Calls prog 141 #[γ L,(Γj x os G H ke I d)] w λe w'=>e= .returned (.tuple #[ι (xp s x).2.1,μ (xp s x).2.2.1,ι (xp s x).2.2.2])/\zw (xf N w w') w' L (xp s x).1/\qg N w w':=by
 obtain⟨k,vo,rfl,aa⟩:=h;refine(Ii aa x os H I G ke d U O Y).mono ?_;rintro e w' ⟨rfl,J,M⟩;exact⟨rfl,⟨k,vo,rfl,J⟩,M⟩
theorem Uh (h:zw N w L s) (d:s.W.length<=1000000):Calls prog 90 #[γ L] w λe w'=>(∃v,e= .returned v/\je 2 (ROn w.heap.size) (λb=>b<w.heap.size) w' w.heap.size 107 v s.W)/\qa w w':=by
 obtain⟨k,vo,rfl,x⟩:=h;exact Ug x d
end
inductive Tg where
 | no | junk | room | ret | queue | table | book | lns | sts | data | pks | reqs
 | lane (x:Int)
 | str (o:Og)
structure RmK where
 R:Nat
 M1:Nat
 RQ:Nat
 AQ:Nat
 tb:Nat
 ta:Nat
 tc:Nat
 td:Nat
 B:Nat
 b:Nat
 ML:Nat
 MS:Nat
 LA:List (Int×Nat)
 SA:List (Og×Nat)
def gj (n:Nat):Value:= .pointer (some ⟨n,0,none⟩)
def zH (k:RmK) (vp vr:Value) (s:RmS):Array Value:=
 #[.pointer (some ⟨k.B,0,none⟩),.int .i64 s.cfg.room,.int .i64 s.cfg.hold,.int .i64 s.cfg.wait,.int .i64 s.cfg.space,.int .i64 s.cfg.retry,.int .i64 s.cfg.most,.bool s.closed,.map (some k.M1),.int .i64 s.clock,
  .pointer (some ⟨k.RQ,0,none⟩),.pointer (some ⟨k.tb,0,none⟩),.map (some k.ML),.map (some k.MS),vp,vr,.int .i64 s.cnt.lost,.int .i64 s.cnt.malf,.int .i64 s.cnt.strange,.int .i64 s.cnt.told,.int .i64 s.cnt.acc]
def RBy:qL (List Int):=λw cs b=> ∃v,cs=[v]/\SlI .u8 w v b/\Byt b
def RAc:qL AcS:=λw cs a=> ∃vs ve vp,cs=[.int .i64 a.o.1,.int .i64 a.o.2,.int .i64 a.num,.bool a.pk.mr,.int .u8 a.pk.ty,.int .u16 a.pk.sq,.int .u32 a.pk.st,.int .u32 a.pk.sc,vs,.bool a.pk.has,.int .u16 a.pk.pr,ve,vp]/\PkS w vs ve vp a.pk
def RRq:qL RqS:=λw cs q=> ∃v,cs=[.int .i64 q.o.1,.int .i64 q.o.2,.int .i64 q.at_,v]/\SlI .u8 w v q.body
theorem Fe:QQ RRq:=λ_ _ _ _ m ⟨v,d,G⟩=>⟨v,d,G.keep m⟩
def gK (Rb:Nat) (t:zu):Array Value:= #[.pointer (some ⟨Rb,0,none⟩),.bool t.any,.int .i64 t.great,.bool t.asks.wanted,.bool t.asks.any,.int .i64 t.asks.last,.int .i64 t.asks.tries,.bool t.askedOf]
structure KJ (N:Nat->Prop) (w:World) (p Rb:Nat) (v:Value) (t:zu):Prop where
 blk:w.heap[p]? =some (.cells (gK Rb t) 124 (0,0))
 buf:xZ w Rb v t.buf
 ok:JOK t.buf
 sub: ∀b,N b->b<w.heap.size
 np:N p
 nb:N Rb
 ne:p≠Rb
 nv: ∀g,v.ownBlock=some g->N g/\g≠p
def Hl (N:Nat->Prop) (w:World) (p:Nat) (t:zu):Prop:= ∃Rb v,KJ N w p Rb v t
def RmK.Holds (k:RmK) (T:Nat->Tg) (w:World) (vp vr:Value) (s:RmS):Tg->Prop
 | .room=>T k.R= .room/\w.heap[k.R]? =some (.cells (zH k vp vr s) 88 (0,0))
 | .ret=>T k.M1= .ret/\jk w k.M1 kO Value.bool s.ret
 | .queue=>T k.RQ= .queue/\T k.AQ= .queue/\RgR 1 188 34 RBy (λb=>T b≠ .data) w k.RQ k.AQ s.cfg.room.toNat s.queue
 | .table=>T k.tb= .table/\T k.ta= .table/\T k.tc= .table/\T k.td= .table/\jq w k.tb k.ta k.tc k.td s.tab
 | .book=>T k.B= .book/\T k.b= .book/\jy w k.B k.b s.book
 | .lns=>T k.ML= .lns/\jk w k.ML (Value.int .i64) gj k.LA
 | .sts=>T k.MS= .sts/\jk w k.MS kO gj k.SA
 | .pks=>je 13 RAc (λb=>T b≠ .data/\T b≠ .pks) w 0 57 vp s.pks/\ ∀g,vp.ownBlock=some g->T g= .pks
 | .reqs=>je 4 RRq (λb=>T b≠ .data/\T b≠ .reqs) w 0 105 vr s.reqs/\ ∀g,vr.ownBlock=some g->T g= .reqs
 | .lane x=>(∀p l,qh k.LA x=some p->qh s.lanes x=some l->zw (λb=>T b= .lane x) w p l)/\(qh k.LA x).isSome=(qh s.lanes x).isSome
 | .str o=>(∀p t,qh k.SA o=some p->qh s.strs o=some t->Hl (λb=>T b= .str o) w p t)/\(qh k.SA o).isSome=(qh s.strs o).isSome
 | .no=> ∀b,w.heap.size<=b->T b= .no
 | .junk=>True
 | .data=>True
structure RmX (T:Nat->Tg) (w0 w:World) (k:RmK) (vp vr:Value) (s:RmS) (F:List Nat):Prop where
 all: ∀t,k.Holds T w vp vr s t
 ge: ∀b,T b≠ .no->w0.heap.size<=b
 law: ∀b∈F,T b= .no/\w0.heap.size<=b/\b<w.heap.size
 more:qa w0 w
def qI (w0 w:World) (k:RmK) (s:RmS) (F:List Nat):Prop:= ∃T vp vr,RmX T w0 w k vp vr s F
def jZ (T:Nat->Tg) (t:Tg) (w w':World):Nat->Tg:=λb=>if w.heap.size<=b/\b<w'.heap.size then t else T b
section
variable {T T':Nat->Tg} {w0 w w':World} {k:RmK} {vp vr:Value} {s:RmS} {F:List Nat} {t:Tg}
theorem RmX.fresh (h:RmX T w0 w k vp vr s F): ∀b,w.heap.size<=b->T b= .no:=h.all .no
theorem jd (G: ∀b,w.heap.size<=b->T b= .no) {u:Tg} (H:u≠ .no) (b:Nat):jZ T t w w' b=u↔(T b=u∨(u=t/\w.heap.size<=b/\b<w'.heap.size)):=by
 unfold jZ;split
 ·rename_i d;constructor
  ·intro e;exact Or.inr ⟨e.symm,d⟩
  ·rintro(e | e)
   ·rw[G b d.1] at e;exact absurd e.symm H
   ·exact e.1.symm
 ·rename_i d;constructor
  ·exact Or.inl
  ·rintro(e | e)
   ·exact e
   ·exact absurd e.2 d
theorem jF (d: ∀b,w.heap.size<=b->T b= .no) {u:Tg} (H:u≠ .no) (G:u≠t) (b:Nat):jZ T t w w' b=u↔T b=u:=by
 rw[jd d H];constructor
 ·rintro(e | e)
  ·exact e
  ·exact absurd e.1 G
 ·exact Or.inl
theorem wW (d: ∀b,w.heap.size<=b->T b= .no) (G:t≠ .no):(λb=>jZ T t w w' b=t)=xf (λb=>T b=t) w w':=by
 funext b
 apply propext;rw[jd d G];unfold xf;simp
theorem Q9 (d: ∀b,w.heap.size<=b->T b= .no) (H:w.heap.size<=w'.heap.size): ∀b,w'.heap.size<=b->jZ T t w w' b= .no:=λb G=>by
 unfold jZ;rw[if_neg τ];exact d b τ
theorem Holds.frame {S:Nat->Prop} {u:Tg} (h:k.Holds T w vp vr s u) (a:qg S w w') (G: ∀b,S b->T b≠u/\T b≠ .data) (H: ∀b,T' b=u↔T b=u) (U: ∀b,T b= .data->T' b= .data) (ac:u≠ .no):k.Holds T' w' vp vr s u:=by
 have e:(λb=>T' b=u)=(λb=>T b=u):=by funext b;exact propext (H b)
 cases u with
 | no=>exact absurd rfl ac
 | junk=>trivial
 | data=>trivial
 | room=>exact⟨(H _).2 h.1,a.blk h.2 (λx=>(G _ x).1 h.1)⟩
 | ret=>exact⟨(H _).2 h.1,h.2.away a (λx=>(G _ x).1 h.1)⟩
 | queue=>
  obtain⟨I,J,M⟩:=h;exact⟨(H _).2 I,(H _).2 J,M.step a (λx=>(G _ x).1 I) (λx=>(G _ x).1 J) (λb d=>(G b d).2) (λb d=>Or.inl λe=>d (U b e))⟩
 | table=>
  obtain⟨I,J,M,Y,ab⟩:=h;exact⟨(H _).2 I,(H _).2 J,(H _).2 M,(H _).2 Y,ab.away a (λx=>(G _ x).1 I) (λx=>(G _ x).1 J) (λx=>(G _ x).1 M) (λx=>(G _ x).1 Y)⟩
 | book=>
  obtain⟨I,J,M⟩:=h;exact⟨(H _).2 I,(H _).2 J,M.away a (λx=>(G _ x).1 I) (λx=>(G _ x).1 J)⟩
 | lns=>exact⟨(H _).2 h.1,h.2.away a (λx=>(G _ x).1 h.1)⟩
 | sts=>exact⟨(H _).2 h.1,h.2.away a (λx=>(G _ x).1 h.1)⟩
 | pks=>
  obtain⟨I,J⟩:=h;refine⟨(I.step (a.mono λb d=>⟨(G b d).2,(G b d).1⟩)).other (λb d=>Or.inl ⟨λe=>d.1 (U b e),λe=>d.2 ((H b).2 e)⟩),λg N=>(H _).2 (J g N)⟩
 | reqs=>
  obtain⟨I,J⟩:=h;refine⟨(I.step (a.mono λb d=>⟨(G b d).2,(G b d).1⟩)).other (λb d=>Or.inl ⟨λe=>d.1 (U b e),λe=>d.2 ((H b).2 e)⟩),λg N=>(H _).2 (J g N)⟩
 | lane x=>
  refine⟨λp l I J=> ?_,h.2⟩;rw[e];exact(h.1 p l I J).away a (λb d=>(G b d).1)
 | str o=>
  refine⟨λp t I J=> ?_,h.2⟩;rw[e];obtain⟨aa,v,x⟩:=h.1 p t I J;have O: ∀b,T b= .str o-> ¬S b:=λb d ad=>(G b ad).1 d
  exact⟨aa,v,a.blk x.blk (O _ x.np),⟨a.blk x.buf.blk (O _ x.nb),x.buf.row.away a (λg N=>O _ (x.nv g N).1)⟩,x.ok,λb d=>Nat.lt_of_lt_of_le (x.sub b d) a.size,x.np,x.nb,x.ne,x.nv⟩
end
section
variable {K V:Type} [DecidableEq K]
theorem qF (m:List (K×V)) (k x:K) (v:V):qh (qx m k v) x=if x=k then some v else qh m x:=by
 induction m with
 | nil=>simp[qx,qh]
 | cons p m ih=>
  obtain⟨a,u⟩:=p;unfold qx;by_cases e:k=a
  ·subst e;rw[if_pos rfl];by_cases e2:x=k<;>simp[qh,e2]
  ·rw[if_neg e];by_cases e2:x=a
   ·subst e2;have: ¬x=k:=λh=>e h.symm
    simp[qh,this]
   ·simp only[qh,if_neg e2];exact ih
theorem xD (m:List (K×V)) (k:K) (v:V):qh (qx m k v) k=some v:=by rw[qF,if_pos rfl]
theorem vF (m:List (K×V)) {k x:K} (v:V) (h:x≠k):qh (qx m k v) x=qh m x:=by rw[qF,if_neg h]
theorem uR (m:List (K×V)) (k x:K):qh (Yh m k) x=if x=k then none else qh m x:=by
 induction m with
 | nil=>simp[Yh,qh]
 | cons p m ih=>
  obtain⟨a,u⟩:=p;unfold Yh at ih ⊢;rw[List.filter_cons];by_cases e:a=k
  ·subst e;rw[if_neg η,ih];by_cases e2:x=a<;>simp[qh,e2]
  ·rw[if_pos (by simp[e])];by_cases e2:x=a
   ·subst e2;simp[qh,e]
   ·simp only[qh,if_neg e2];exact ih
theorem gD {m:List (K×V)} (d:(m.map Prod.fst).Nodup) (k x:K):qh (yK m k) x=if x=k then none else qh m x:=by
 induction m with
 | nil=>simp[yK,qh]
 | cons p m ih=>
  obtain⟨a,u⟩:=p;rw[List.map_cons,List.nodup_cons] at d;unfold yK;by_cases e:k=a
  ·subst e;rw[if_pos rfl];by_cases e2:x=k
   ·subst e2;rw[if_pos rfl];have:=d.1;clear ih;have key: ∀(m:List (K×V)),x∉m.map Prod.fst->qh m x=none:=by
     intro m
     induction m with
     | nil=>intro _;rfl
     | cons q m ih=>
      intro h;rw[List.map_cons,List.mem_cons,not_or] at h;obtain⟨b,z⟩:=q;simp only[qh,if_neg h.1];exact ih h.2
    exact key m this
   ·simp[qh,e2]
  ·rw[if_neg e];by_cases e2:x=a
   ·subst e2;have: ¬x=k:=λh=>e h.symm
    simp[qh,this]
   ·simp only[qh,if_neg e2];exact ih d.2
end
def qw (F:List Nat) (w w':World):Prop:=w.heap.size<=w'.heap.size/\ ∀b∈F,w'.heap[b]? =w.heap[b]?
section
variable {T T':Nat->Tg} {w0 w w':World} {k k':RmK} {vp vr vp' vr':Value} {s s':RmS} {F F' Fn:List Nat} {t:Tg}
theorem qw.refl (F:List Nat) (w:World):qw F w w:=⟨Nat.le_refl _,λ_ _=>rfl⟩
theorem qw.trans {w'':World} (h:qw F w w') (k:qw F w' w''):qw F w w'':=⟨Nat.le_trans h.1 k.1,λb d=>(k.2 b d).trans (h.2 b d)⟩
theorem qw.sub (h:qw F w w') (G: ∀b∈F',b∈F):qw F' w w':=⟨h.1,λb d=>h.2 b (G b d)⟩
theorem qw.blk {b:Nat} {o:Obj} (h:qw F w w') (d:b∈F) (k:w.heap[b]? =some o):w'.heap[b]? =some o:=by rw[h.2 b d];exact k
theorem RmX.own (h:RmX T w0 w k vp vr s F) (G:t≠ .no/\t≠ .data) (a:qg (λb=>T b=t) w w') (U:k'.Holds (jZ T t w w') w' vp' vr' s' t)
  (rest: ∀u,u≠t->u≠ .no->k.Holds (jZ T t w w') w' vp vr s u->k'.Holds (jZ T t w w') w' vp' vr' s' u):RmX (jZ T t w w') w0 w' k' vp' vr' s' F/\qw F w w':=by
 have I:=h.fresh;have O: ∀b,T b=t->w0.heap.size<=b:=λb d=>h.ge b (by rw[d];exact G.1)
 refine⟨⟨λu=> ?_,λb d=> ?_,λb d=> ?_,a.to_more h.more O⟩,a.size,λb d=>a.block b (h.law b d).2.2 (λe=>G.1 (by rw[<-e];exact(h.law b d).1))⟩
 ·by_cases e:u=t
  ·subst e;exact U
  ·by_cases en:u= .no
   ·subst en;exact Q9 I a.size
   ·refine rest u e en (Holds.frame (h.all u) a (λb d=>⟨λH=>e (H.symm.trans d),λH=>G.2 (d.symm.trans H)⟩) (λb=>jF I en e b) (λb d=> ?_) en);exact(jF I η (Ne.symm G.2) b).2 d
 ·unfold jZ at d;split at d
  ·have:=h.more.size;omega
  ·exact h.ge b d
 ·obtain⟨J,M,N⟩:=h.law b d;refine⟨?_,M,Nat.lt_of_lt_of_le N a.size⟩;unfold jZ;rw[if_neg τ];exact J
theorem RmX.mut (h:RmX T w0 w k vp vr s F) (a:qg (λb=>b∈F) w w'):RmX T w0 w' k vp vr s F:=by
 refine⟨λu=> ?_,h.ge,λb d=>⟨(h.law b d).1,(h.law b d).2.1,Nat.lt_of_lt_of_le (h.law b d).2.2 a.size⟩,a.to_more h.more (λb d=>(h.law b d).2.1)⟩;by_cases en:u= .no
 ·subst en;exact λb d=>h.fresh b (Nat.le_trans a.size d)
 ·exact Holds.frame (h.all u) a (λb d=>⟨λe=>en (by rw[<-e];exact(h.law b d).1),λe=>by rw[(h.law b d).1] at e;cases e⟩) (λb=>Iff.rfl) (λb d=>d) en
theorem RmX.on (h:RmX T w0 w k vp vr s F) (m:qa w w'):RmX T w0 w' k vp vr s F:=h.mut (qg.of_more m)
theorem RmX.sub (h:RmX T w0 w k vp vr s F) (G: ∀b∈F',b∈F):RmX T w0 w k vp vr s F':=⟨h.all,h.ge,λb d=>h.law b (G b d),h.more⟩
theorem RmX.adds (h:RmX T w0 w k vp vr s F) (m:qa w w') (G: ∀b∈Fn,w.heap.size<=b/\b<w'.heap.size):RmX T w0 w' k vp vr s (Fn++F):=by
 have d:=h.on m;refine⟨d.all,d.ge,λb H=> ?_,d.more⟩;rcases List.mem_append.1 H with e | e
 ·exact⟨h.fresh b (G b e).1,Nat.le_trans h.more.size (G b e).1,(G b e).2⟩
 ·exact d.law b e
theorem RmX.data (h:RmX T w0 w k vp vr s F) (X:Nat->Prop) (G: ∀b,X b->T b= .no/\w0.heap.size<=b/\b<w.heap.size/\b∉F): ∃T',RmX T' w0 w k vp vr s F/\(∀b,X b->T' b= .data)/\ ∀b,¬X b->T' b=T b:=by
 classical
 have e: ∀u,u≠ .no->u≠ .data-> ∀b,(if X b then Tg.data else T b)=u↔T b=u:=λu H I b=>by
  by_cases d:X b
  ·rw[if_pos d,(G b d).1];exact⟨λx=>absurd x.symm I,λx=>absurd x.symm H⟩
  ·rw[if_neg d]
 have M: ∀b,T b= .data->(if X b then Tg.data else T b)= .data:=λb d=>by
  split
  ·rfl
  ·exact d
 refine⟨λb=>if X b then .data else T b,⟨λu=> ?_,λb d=> ?_,λb d=> ?_,h.more⟩,λb d=>if_pos d,λb d=>if_neg d⟩
 ·by_cases en:u= .no
  ·subst en;intro b d;show (if X b then Tg.data else T b)= .no;rw[if_neg (λx=>by have:=(G b x).2.2.1;omega)];exact h.fresh b d
  ·by_cases ed:u= .data
   ·subst ed;trivial
   ·exact Holds.frame (h.all u) (qg.refl (λ_=>False) w) (λb d=>d.elim) (e u en ed) M en
 ·by_cases hx:X b
  ·exact(G b hx).2.1
  ·rw[if_neg hx] at d;exact h.ge b d
 ·obtain⟨H,I,J⟩:=h.law b d;refine⟨?_,I,J⟩;show (if X b then Tg.data else T b)= .no;rw[if_neg (λx=>(G b x).2.2.2 d)];exact H
theorem qI.on (h:qI w0 w k s F) (m:qa w w'):qI w0 w' k s F:=by
 obtain⟨T,vp,d,x⟩:=h;exact⟨T,vp,d,x.on m⟩
theorem qI.sub (h:qI w0 w k s F) (d: ∀b∈F',b∈F):qI w0 w k s F':=by
 obtain⟨T,vp,G,x⟩:=h;exact⟨T,vp,G,x.sub d⟩
theorem qI.adds (h:qI w0 w k s F) (m:qa w w') (d: ∀b∈Fn,w.heap.size<=b/\b<w'.heap.size):qI w0 w' k s (Fn++F):=by
 obtain⟨T,vp,G,x⟩:=h;exact⟨T,vp,G,x.adds m d⟩
theorem qI.more (h:qI w0 w k s F):qa w0 w:=h.elim λ_ h=>h.elim λ_ h=>h.elim λ_ h=>h.more
theorem qI.law (h:qI w0 w k s F): ∀b∈F,w0.heap.size<=b/\b<w.heap.size:=h.elim λ_ h=>h.elim λ_ h=>h.elim λ_ h b d=>(h.law b d).2
theorem qI.stay (h:qI w0 w k s F) (m:qa w w'):qw F w w':=⟨m.size,λb d=>m.block b (h.law b d).2⟩
end
theorem DM {K V:Type} [DecidableEq K] {m:List (K×V)} (d:(m.map Prod.fst).Nodup) {k:K} {f:V}:qh m k=some f↔(k,f)∈m:=by
 induction m with
 | nil=>simp[qh]
 | cons p m ih=>
  obtain⟨a,v⟩:=p;rw[List.map_cons,List.nodup_cons] at d;simp only[qh];by_cases e:k=a
  ·subst e;rw[if_pos rfl];constructor
   ·intro h;injection h with h
    subst h;simp
   ·intro h;rcases List.mem_cons.1 h with h | h
    ·injection h with _ h
     rw[h]
    ·exact absurd (List.mem_map.2 ⟨(k,f),h,rfl⟩) d.1
  ·rw[if_neg e,ih d.2];constructor
   ·intro h;exact List.mem_cons_of_mem _ h
   ·intro h;rcases List.mem_cons.1 h with h | h
    ·injection h with h _
     exact absurd h e
    ·exact h
theorem WL (d:Sb->Bool) (u:List (Int×Sb)) (x:Int):x∈prR d u↔x∈subIds/\ ∃sb,qh u x=some sb/\d sb=true:=by
 unfold prR;rw[List.mem_filter];cases h:qh u x with
 | none=>simp[h]
 | some sb=>simp[h]
theorem GD:subIds.Pairwise (· < ·):=by decide
theorem Ur (x:Int):x∈subIds↔0<=x/\x<6:=by
 unfold subIds;constructor
 ·intro h;simp at h;omega
 ·intro h;simp;omega
theorem Ik (d:Sb->Bool) (u:List (Int×Sb)):(prR d u).Pairwise (· < ·):=List.Pairwise.sublist List.filter_sublist GD
theorem Vl {u:List (Int×Sb)} (G:(u.map Prod.fst).Nodup) (I: ∀x,(qh u x).isSome=true->0<=x/\x<6) (d:Sb->Bool):uo d u=prR d u:=by
 have Y:(yU d u).Nodup:=by
  have:yU d u=(u.filter λq=>d q.2).map Prod.fst:=by
   unfold yU;clear G I
   induction u with
   | nil=>rfl
   | cons q l ih=>
    by_cases e:d q.2=true<;>simp[e,ih]
  rw[this];exact List.Nodup.sublist ((List.filter_sublist).map _) G
 have U: ∀x,x∈yU d u↔x∈prR d u:=λx=>by
  rw[WL,Ur];unfold yU;rw[List.mem_filterMap];constructor
  ·rintro⟨⟨a,H⟩,O,h⟩;by_cases e:d H=true
   ·simp only[e,if_true] at h;cases h;have:=(DM G).2 O;exact⟨I _ (by rw[this];rfl),H,this,e⟩
   ·simp[e] at h
  ·rintro⟨_,H,M,N⟩;exact⟨(x,H),(DM G).1 M,by simp[N]⟩
 have J:=Ik d u;have aa:(prR d u).Nodup:=J.imp λ{a b} h e=>by omega
 have ab:(yU d u).Perm (prR d u):=(List.perm_ext_iff_of_nodup Y aa).2 U;unfold uo;rw[gL ab,Zh (J.imp λ{a b} h=>by omega)]
theorem ZX (a b:Og) (w:World):(Op.equal 36 (kO a) (kO b)).run prog w= .ok (decide (a=b)) w:=by
 have J:prog.stoodInHeld 36=false:=by kernel_rfl
 obtain⟨d,G⟩:=a;obtain⟨H,I⟩:=b;unfold Op.equal kO;rw[show Op.maxDepth=9999+1 from rfl,run_equalIn_agg w 9999 36 _ _ ξ J];simp[go_sem];by_cases e1:d=H<;>by_cases e2:G=I<;>simp[e1,e2]
theorem KX:yz prog 36 kO:=
 yz.of_ask underlying36 (λa b=>by simp[Instr.sameNow]) ZX (λb k w=>by
  rw[show (10000:Nat)=9999+1 from rfl];unfold Instr.checkKey kO
  simp[run_underlying underlying36,go_sem,Ga underlying3 9999 ζ]) (λk=>by simp[Instr.sameBits,kO])
theorem Gv (w:World):(zeroValue 4).run prog w= .ok (μ false) w:=by kernel_rfl
theorem Uf (w:World):(zeroValue 149).run prog w= .ok (π none) w:=by kernel_rfl
theorem Gs (w:World):(zeroValue 125).run prog w= .ok (π none) w:=by kernel_rfl
def Gh (o:Option Nat):Value:= .pointer (o.map λn=>⟨n,0,none⟩)
theorem xq {w:World} {b:Nat} {L:List (Int×Nat)} (h:jk w b (Value.int .i64) gj L) (x:Int) (c:Bool):
  (Instr.lookup 83 (.map (some b)) (ι x) c).run prog w= .ok (if c then .tuple #[Gh (qh L x),μ (qh L x).isSome] else Gh (qh L x)) w:=by
 rw[h.look kE underlying83 (Uf w) x c];cases qh L x<;>cases c<;>rfl
theorem ya {w:World} {b:Nat} {L:List (Og×Nat)} (h:jk w b kO gj L) (o:Og) (c:Bool):
  (Instr.lookup 84 (.map (some b)) (θ #[ι o.1,ι o.2]) c).run prog w= .ok (if c then .tuple #[Gh (qh L o),μ (qh L o).isSome] else Gh (qh L o)) w:=by
 have:=h.look Yr underlying84 (Gs w) o c;unfold kO at this;rw[this];cases qh L o<;>cases c<;>rfl
theorem VH {w:World} {b:Nat} {L:List (Og×Bool)} (h:jk w b kO μ L) (o:Og):
  (Instr.lookup 80 (.map (some b)) (θ #[ι o.1,ι o.2]) false).run prog w= .ok (μ ((qh L o).getD false)) w:=by
 have:=h.look KX underlying80 (Gv w) o false;unfold kO at this;rw[this];cases qh L o<;>rfl
section
variable {w:World} {B b:Nat} {m:Bk}
theorem Ht (h:jy w B b m) (sub id:Int):
  Calls prog 31 #[θ #[γ B],ι sub,ι id] w λe w'=>e= .returned (.tuple #[ι ((qh m (sub,id)).getD 0),μ (qh m (sub,id)).isSome])/\qa w w':=by
 have G:=κ h;clear h
 go_enter func31,ntmps31
 go_wp2_with (go_at_call 89;(go_call MK (G.o.more (qa.alloc w (.cells #[γ B] 79))) (sub,id) as e w1 ⟨rfl,d⟩;have H:=κ d;clear d))
 go_ret2
 exact⟨rfl,(qa.alloc _ _).trans H.o⟩
theorem Hs (h:jy w B b m) (sub id:Int):
  Calls prog 140 #[θ #[γ B],ι sub,ι id] w λe w'=>e= .returned (μ (decide (qh m (sub,id)=some 0)))/\qa w w':=by
 have J:=κ h;clear h;have e:decide (qh m (sub,id)=some 0)=((qh m (sub,id)).isSome&&((qh m (sub,id)).getD 0==0)):=by cases qh m (sub,id) with | none=>simp | some x=>(by_cases hx:x=0<;>simp[hx])
 rw[e];generalize N:qh m (sub,id)=g at *;have M:=κ N;clear N;obtain⟨f,I⟩:=ν (g.getD 0);obtain⟨i,hi⟩:=ν (g.isSome);have G:=κ (Ht (J.o.more (qa.alloc w (.cells #[γ B] 79))) sub id);rw[M.o,I,hi] at G;rw[I,hi];clear e I hi M J
 go_enter func140,ntmps140
 cases i with
 | true=>
  go_wp2_with (go_at_call 31;(go_call G.o as e w1 ⟨rfl,d⟩;have H:=κ d;clear d))
  go_ret;exact⟨rfl,(qa.alloc _ _).trans H.o⟩
 | false=>
  go_wp2_with (go_at_call 31;(go_call G.o as e w1 ⟨rfl,d⟩;have H:=κ d;clear d))
  go_ret;exact⟨rfl,(qa.alloc _ _).trans H.o⟩
theorem gI (h:jy w B b m) (sub id f:Int):
  Calls prog 128 #[θ #[γ B],ι sub,ι id,ι f] w λe w'=>e= .returned (.tuple #[])/\jy w' B b (jp m sub id f)/\qg (λx=>x=b) w w':=by
 have I:=κ h;have N:qa w (w.alloc (.cells #[γ B] 79)):=qa.alloc _ _;have U:=κ (qj w (.cells #[γ B] 79));have H:=κ (Hs (I.o.more N) sub id);clear h N;unfold jp;by_cases ho:qh m (sub,id)=some 0
 ·rw[if_pos ho];rw[decide_eq_true ho] at H;clear ho
  go_enter func128,ntmps128
  go_wp2_with (first | (go_at_call 140;(go_call H.o as e w1 ⟨rfl,d⟩;have G:Hid (qa w w1):=κ ((qa.alloc _ _).trans d);have aa:w1.cell? ⟨w.heap.size,0,none⟩=some (π (some ⟨B,0,none⟩)):=qb (qc d U.o) 0 rfl;clear d)) | (go_at_call 163;(go_call F0 (I.o.more G.o) (sub,id) f as e w2 ⟨rfl,M,J⟩;have Y:=κ M;have O:=κ J;clear M J)))
  (refine bodyPost_end (v:= .tuple #[]) ?re1 rfl ?_;(case re1=>simp[results,results128,go_sem]))
  exact⟨rfl,Y.o,(qg.of_more G.o).trans O.o⟩
 ·rw[if_neg ho];rw[decide_eq_false ho] at H;clear ho
  go_enter func128,ntmps128
  go_wp2_with (go_at_call 140;(go_call H.o as e w1 ⟨rfl,d⟩;have G:Hid (qa w w1):=κ ((qa.alloc _ _).trans d);clear d))
  (refine bodyPost_end (v:= .tuple #[]) ?re2 rfl ?_;(case re2=>simp[results,results128,go_sem]))
  exact⟨rfl,I.o.more G.o,qg.of_more G.o⟩
end
end Go.Proofs.YtdgippmmaponfaaGreat
