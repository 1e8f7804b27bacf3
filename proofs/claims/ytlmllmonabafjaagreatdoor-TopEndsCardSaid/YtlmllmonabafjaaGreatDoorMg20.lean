/- Contracts of the functions that the law reaches, and plain laws; no conditions but those written at each. -/
import Derived.Test.YtlmllmonabafjaaGreatDoorMg19
namespace Go.Proofs.YtlmllmonabafjaaGreatDoor
open Go.Value renaming bool->μ,slice->δ,pointer->π,agg->θ
open Go.IntKind renaming i64->ι,u8->υ,u16->φ,u32->ω,i32->χ,u64->ψ
open _root_.Go.Proofs.Tryz
set_option linter.unusedSimpArgs false
set_option maxHeartbeats 8000000
set_option linter.unusedVariables false
open Go.RowKit
set_option maxRecDepth 100000
theorem Qy {K V:Type} [DecidableEq K] (m:List (K×V)) (k:K) (v u:V):qx (qx m k v) k u=qx m k u:=by
 induction m with
 | nil=>simp[qx]
 | cons p m ih=>
  obtain⟨a,x⟩:=p;by_cases e:k=a
  ·simp[qx,e]
  ·simp[qx,e,ih]
theorem ZL {K V:Type} [DecidableEq K] (m:List (K×V)) (k:K) (v:V) (h:qh m k=some v):qx m k v=m:=by
 induction m with
 | nil=>cases h
 | cons p m ih=>
  obtain⟨a,x⟩:=p;by_cases e:k=a
  ·simp[qh,e] at h;simp[qx,e,h]
  ·simp[qh,e] at h;simp[qx,e,ih h]
def DT (P:Nat->Prop) (vs ve vp:Value) (p:Pk):Prop:=(p.ss≠[]-> ∀g,vs.ownBlock=some g->P g)/\(p.ex≠[]-> ∀g,ve.ownBlock=some g->P g)/\(p.pl≠[]-> ∀g,vp.ownBlock=some g->P g)
theorem SlI.stay {k:IntKind} {F:List Nat} {w w':World} {v:Value} {l:List Int} (h:SlI k w v l) (I:l≠[]-> ∀b,v.ownBlock=some b->b∈F) (a:qw F w w'):SlI k w' v l:=by
 obtain⟨O,cap,rfl,d,G,H⟩:=h;refine⟨O,cap,rfl,d,λi hi=> ?_,H⟩;obtain⟨b,U,rfl,N,J⟩:=G i hi;exact⟨b,U,rfl,Nat.lt_of_lt_of_le N a.1,by rw[World.cell?_of_block (a.2 b (I (λe=>by rw[e] at hi;simp at hi) b rfl))];exact J⟩
theorem PkS.stay {F:List Nat} {w w':World} {H G vp:Value} {p:Pk} (h:PkS w H G vp p) (d:DT (· ∈F) H G vp p) (a:qw F w w'):PkS w' H G vp p:=
 ⟨h.s.stay d.1 a,h.e.stay d.2.1 a,h.l.stay d.2.2 a⟩
section
variable {w0 w w':World} {k:RmK} {s:RmS} {F Fn:List Nat}
theorem FI (eF:qI w0 w k s (Fn++F)) (dt:zc s) (G o2:Int) {t:zu} (am:qh s.strs (G,o2)=some t) (p:Pk) (bh bf bg:Value) (aW:PkS w bh bf bg p)
  (dg:DT (· ∈Fn) bh bf bg p) (dh: ∀g∈Fn,g∉F) (dr:U16 p.sq) (dm:xz (yV t p.sq)) (aj:t.any=true->xz t.great) (df:xz s.clock) (fH:s.pks.length<=1000000) (eO:0<=s.cnt.acc/\s.cnt.acc<=1000000000) (dn:Byt p.pl) (dp:p.pl.length<=1000000):
  Calls prog 132 #[γ k.R,θ #[ι G,ι o2],(Γq p bh bf bg)] w λe w'=>e= .returned (.tuple #[])/\qI w0 w' k (s.accept (G,o2) p) F/\qw F w w':=by
 obtain⟨w4,bz⟩:=ν (w.alloc (.cells #[ι G,ι o2] 58));obtain⟨W1,bu⟩:=ν (w4.alloc (.cells (Γq p bh bf bg) 63));have bB:qa w w4:=by rw[<-bz];exact qa.alloc _ _
 have ct:qa w4 W1:=by rw[<-bu];exact qa.alloc _ _
 have bk:Hid (W1.heap[w.heap.size]? =some (.cells #[ι G,ι o2] 58 (0,0))):=κ (qc ct (by rw[<-bz];exact qj w _));have aL:Hid (W1.heap[w4.heap.size]? =some (.cells (Γq p bh bf bg) 63 (0,0))):=κ (by rw[<-bu];exact qj w4 _);have bU:=κ (bB.trans ct);obtain⟨T,vp,fl,h⟩:=eF
 have bZ:RmX T w0 W1 k vp fl s ([w.heap.size,w4.heap.size]++(Fn++F)):=h.adds bU.o (λb d=>by
  have eG:=qn bk.o;have eH:=qn aL.o;have:=bB.size;simp at d;rcases d with rfl | rfl
  ·exact⟨Nat.le_refl _,eG⟩
  ·exact⟨this,eH⟩)
 have aP:=κ bZ;have ep:=κ bB;have eh:Hid (∀b∈Fn,b<w.heap.size):=κ (λb d=>(h.law b (List.mem_append_left _ d)).2.2);have er:=κ (h.at.stay bU.o);obtain⟨ab,fq,vb,dq,dw⟩:=bZ.strAt am;have aI:=κ dq;have bs:=κ dw;have bN:=κ am;have em:=κ (aW.keep bU.o);have au:=κ dg;have ef:=κ dh;have bM:=κ dt;have dT:=λ(x:qt W1)=>β13 (qc x.h aP.o.blk)
 have bS:=λ(x:qt W1)=>qc x.h bk.o
 have aN:=λx=>β0 (bS x);have bE:=λx=>β1 (bS x);clear bS
 have dW: ∀x:qt W1,(Instr.lookup 91 (.map (some k.MS)) (θ #[ι G,ι o2]) false).run prog x.w'= .ok (γ ab) x.w':=λx=>by
  have:=ya (aP.o.stm.more x.h) (G,o2) false;rw[aI.o] at this;exact this
 obtain⟨cv,du⟩:=ν (t.any);have aJ:=κ du;obtain⟨n,cl⟩:=ν (yV t p.sq);have bo:=κ cl;have bL:=κ dm;have ei:=κ aj;have cN:=κ dr;have ed:=κ df;have cK:=κ (And.intro dn dp);rw[cl] at bL;obtain⟨os,an,rfl,eU⟩:=id aW.s;obtain⟨ao,ke,rfl,eP⟩:=id aW.e;obtain⟨ag,af,rfl,eR⟩:=id aW.l;clear dn dp h bZ dq dw am aW dg dh dt du cl dm aj dr df bB ct eU eP eR
 go_enter func132,ntmps132
 go_upto_region 1 with fail
 (try rw[bz])
 (try rw[bu])
 clear bz bu;refine qD _ (qa.refl _) ξ ξ ?_
 repeat (go_big_quiet_step (fail))
 refine wpQuiet_nil ?_;intro _ eW;obtain⟨dK,rfl⟩:=eW;obtain⟨W2,ce⟩:=ν (dK.w');have ax:Hid (qa W1 W2):=κ (by rw[<-ce];exact dK.h);rw[ce];clear ce dT aN bE dW;have cu:=β2 (qc ax.o aL.o);have t1:=β1 (qc ax.o bs.o.blk);have t2:=β2 (qc ax.o bs.o.blk);rw[aJ.o] at t1
 go_upto_if 28 with (go_at_call 191;(go_call Wa p.sq cN.o _ as e fT ⟨rfl,ez⟩;obtain rfl:=ez))
 go_cut [7] from 29 (λv ah=>v= ι n/\qa W2 ah)
 case first=>
  cases cv with
  | false=>
   go_wp2;go_meet;exact⟨by rw[<-bo.o];unfold yV;rw[aJ.o];rfl,qa.refl _⟩
  | true=>
   have fp:=λ(x:qt W2)=>β2 (qc (ax.o.trans x.h) aL.o)
   have fo:=λ(x:qt W2)=>β2 (qc (ax.o.trans x.h) bs.o.blk)
   go_upto_region 4 with fail
   refine Qn W2 9 9 [7] ?_
   refine Qq7 ?_
   (refine Ql ?_;intro K H)
   go_call Wm t.great p.sq (ei.o aJ.o) cN.o _ as e w5 ⟨rfl,rfl⟩;refine⟨_,rfl,qk ρ,H _ _ ?_⟩;clear H K
   refine Qq1 ?_
   refine qA ?_;go_wp2;go_meet;exact⟨by rw[<-bo.o];unfold yV;rw[aJ.o];rfl,ρ⟩
 case rest=>
 obtain⟨rfl,az⟩:=hcut;obtain⟨bm,cb⟩:=ν ([w.heap.size,w4.heap.size]++(Fn++F));rw[cb] at aP;have av:=κ cb;have cT:=κ (aP.o.on (ax.o.trans az));have aQ:=κ (bs.o.on (ax.o.trans az));have eq:=κ (aP.o.at.stay (ax.o.trans az));clear az cu t1 t2 cb;have t1:=β1 aQ.o.blk;have t2:=β2 aQ.o.blk;have fF:=qd aQ.o.blk 2;rw[aJ.o] at t1;obtain⟨c,de⟩: ∃c:Bool,(!cv||decide (t.great<n))=c:=⟨_,rfl⟩;have bH:=κ de;clear de
 go_upto_region 5 with fail
 go_cut [49] from 50 (λv ah=>v= μ c/\ah=wc)
 case first=>
  cases cv with
  | false=>
   go_wp2;go_meet;exact⟨by rw[<-bH.o];rfl,rfl⟩
  | true=>
   go_wp2;go_meet;exact⟨by rw[<-bH.o];rfl,rfl⟩
 case rest=>
 obtain⟨rfl,eA⟩:=hcut;obtain rfl:=eA.symm
 go_upto_if 49 with fail
 obtain⟨fy,eK⟩:=ν (wc);subst eK;obtain⟨aU,dl⟩:=ν ((if c then n else t.great));have bK:=κ dl;clear dl
 go_cut [] from 50 (λah=>qI w0 ah k {s with strs:=qx s.strs (G,o2) {t with great:=aU}} bm/\qw bm wc ah)
 case first=>
  cases c with
  | false=>
   have bI:Hid ({s with strs:=qx s.strs (G,o2) {t with great:=aU}}=s):=κ (by rw[<-bK.o];show {s with strs:=qx s.strs (G,o2) t}=s;rw[ZL _ _ _ bN.o]);go_wp2;go_meet;exact⟨by rw[bI.o];exact cT.o.at,qw.refl _ _⟩
  | true=>
   have ar:=κ (cT.o.strSet (t':={t with great:=aU}) bN.o aI.o aQ.o (qg.set (S:=λb=>b=ab) (qg.refl _ _) (p:=⟨ab,2,none⟩) rfl (ι n)) (qB (qp aQ.o.blk 2 _) (by rw[<-bK.o];rfl)) rfl);go_wp2;go_meet;exact ar.o
 case rest=>
 obtain⟨ca,be⟩:=hcut;have cX:=κ (eq.o.trans be);obtain⟨fx,fO,fS,cy⟩:=ca;obtain⟨fd,fr,fJ,bv,aZ⟩:=cy.strAt (o:=(G,o2)) (xD _ _ _);obtain rfl:ab=fd:=by rw[aI.o] at bv;injection bv
 have ev:=β1 aZ.blk;have eB:=qd aZ.blk 1;have Y:=κ (cy.strSet (t':={t with great:=aU,any:=true}) (xD _ _ _) bv aZ (qg.set (S:=λb=>b=ab) (qg.refl _ _) (p:=⟨ab,1,none⟩) rfl (μ true)) (qB (qp aZ.blk 1 _) rfl) rfl);simp only[Qy] at Y;obtain⟨t2,cq⟩: ∃t2:zu,{t with great:=aU,any:=true}=t2:=⟨_,rfl⟩;have cS:=κ cq;clear be cy bv aZ
 go_upto_region 8 with fail
 obtain⟨W7,cf⟩:=ν (wc.setCell ⟨ab,1,none⟩ (μ true));rw[cf] at Y
 (try rw[cf])
 clear cf ev eB;have dZ:Hid (qI w0 W7 k {s with strs:=qx s.strs (G,o2) t2} bm):=κ (by rw[<-cq];exact Y.o.1);have ak:=κ (cX.o.trans Y.o.2);clear cq Y cX;obtain⟨fw,fj,fm,aC⟩:=dZ.o;obtain⟨N,_,J,rfl,rfl,_⟩:=(aC.all .pks).1.shape;have bR:=κ aC;have bY:=β14 aC.blk;clear aC
 go_upto_region 9 with fail
 clear bY;have cL:=κ (em.o.stay (F:=bm) ⟨λI g aj=>by rw[<-av.o];exact List.mem_append_right _ (List.mem_append_left _ (au.o.1 I g aj)),λI g aj=>by rw[<-av.o];exact List.mem_append_right _ (List.mem_append_left _ (au.o.2.1 I g aj)),λI g aj=>by rw[<-av.o];exact List.mem_append_right _ (List.mem_append_left _ (au.o.2.2 I g aj))⟩ ak.o);have eg:Hid (∀b∈Fn,b<w.heap.size):=κ eh.o
 obtain⟨ae,dJ,da,_⟩:=(bR.o.sub (F':=[w.heap.size,w4.heap.size]++F) (λb d=>by
  rw[<-av.o];rcases List.mem_append.1 d with e | e
  ·exact List.mem_append_left _ e
  ·exact List.mem_append_right _ (List.mem_append_right _ e))).data (λb=>b∈Fn) (λb d=>by
   obtain⟨fh,cu,fi⟩:=bR.o.law b (by rw[<-av.o];exact List.mem_append_right _ (List.mem_append_left _ d));refine⟨fh,cu,fi,λeL=> ?_⟩;rcases List.mem_append.1 eL with e | e
   ·have fU:=eg.o b d;have fV:=ep.o.size;simp at e;omega
   ·exact ef.o b d e)
 have U:=κ dJ;have bq:=κ da;clear dJ da bR;have dN:=κ (ak.o.blk (by rw[<-av.o];simp) bk.o);have dP:=κ (ak.o.blk (by rw[<-av.o];simp) aL.o);obtain⟨_,dv⟩:=U.o.all .pks;have aO:=κ dv;clear dv;have aK: ¬(δ N s.pks.length J).ownBlock=some k.R:=λe=>by have:=aO.o _ e;rw[(U.o.all .room).1] at this;cases this
 have dz: ¬(δ N s.pks.length J).ownBlock=some w.heap.size:=λe=>by have:=aO.o _ e;rw[(U.o.law w.heap.size η).1] at this;cases this
 have dA: ¬(δ N s.pks.length J).ownBlock=some w4.heap.size:=λe=>by have:=aO.o _ e;rw[(U.o.law w4.heap.size η).1] at this;cases this
 have dU:=λ(x:qz (λb=>(δ N s.pks.length J).ownBlock=some b) W7)=>β14 (x.h.blk U.o.blk aK)
 have bT:=λ(x:qz (λb=>(δ N s.pks.length J).ownBlock=some b) W7)=>x.h.blk dN.o dz
 have aN:=λx=>β0 (bT x);have bE:=λx=>β1 (bT x);clear bT
 have cG: ∀x:qz (λb=>(δ N s.pks.length J).ownBlock=some b) W7,x.w'.rangeAt w4.heap.size 0 (Γh p os an ao ke ag af):=λx=>xy (x.h.blk dP.o dA)
 obtain⟨fa,hi,eX,eY,eZ⟩:=info_parts (P:=prog) (e:=65) (z:= θ #[ι 0,ι 0,ι 0,false,υ 0,φ 0,ω 0,ω 0,(),false,φ 0,(),()]) (size:=13) (bytes:=120) ξ;refine QN (λb=>(δ N s.pks.length J).ownBlock=some b) W7 13 14 [9,10,11,13] ?_
 refine Qs7 ?_
 refine jh rfl rfl (qi σ) 63 (.tmp 5) rfl w4.heap.size 0 rfl (Γh p os an ao ke ag af) _ (λw' aa=>by obtain⟨x,rfl⟩:=aa;exact cG x) underlying63 rfl ξ ?_;intro K H;go_simp;refine H _ ?_;clear H K dU aN bE cG
 refine Qs1 ?_
 (refine Ql ?_;intro K H)
 refine⟨qi (((qg.refl _ W7).drewN 1).alc _),H _ _ ?_⟩;clear H K;have cr: ∀g,(δ N s.pks.length J).ownBlock=some g->ae g= .pks:=aO.o;have dF:=(((U.o.all .pks).1.on (qa.drewN W7 1)).on (qa.alloc _ (.cells (Γi G o2 n p os an ao ke ag af) 65))).other (D':=λb=>(ae b≠ .data/\ae b≠ .pks)/\b<W7.heap.size) (λb d=>Or.inl d.1);have bC:=(cL.o.keep (qa.drewN W7 1)).keep (qa.alloc _ (.cells (Γi G o2 n p os an ao ke ag af) 65));have dE:jw RAc (λb=>((ae b≠ .data/\ae b≠ .pks)/\b<W7.heap.size)∨(δ N s.pks.length J).ownBlock=some b) ((W7.drewN 1).alloc (.cells (Γi G o2 n p os an ao ke ag af) 65)) (Γi G o2 n p os an ao ke ag af) ⟨(G,o2),n,p⟩:=λw' a=>by
  have cn: ∀g,g∈Fn-> ¬(((ae g≠ .data/\ae g≠ .pks)/\g<W7.heap.size)∨(δ N s.pks.length J).ownBlock=some g):=λg aj aa=>by
   have e:=bq.o g aj;rcases aa with aa | aa
   ·exact aa.1.1 e
   ·rw[cr g aa] at e;cases e
  exact⟨_,_,_,rfl,bC.s.off2 (λI b d=>cn b (au.o.1 I b d)) a,bC.e.off2 (λI b d=>cn b (au.o.2.1 I b d)) a,bC.l.off2 (λI b d=>cn b (au.o.2.2 I b d)) a⟩
 refine jR rfl rfl ?_;intro K H
 refine zK (.tmp 66) (.tmp 71) 92 rfl 0 65 fa (θ #[ι 0,ι 0,ι 0,false,υ 0,φ 0,ω 0,ω 0,(),false,φ 0,(),()]) 13 120 underlying92 hi eX eY eZ rfl ζ _ s.pks rfl dF W7.heap.size (Γi G o2 n p os an ao ke ag af) ⟨(G,o2),n,p⟩ rfl rfl (kX rfl) (by simp[Value.oneCell']) dE (λb d=>by
  have:=d.2;have:=(((qa.drewN W7 1)).al (.cells (Γi G o2 n p os an ao ke ag af) 65)).size
  omega) ζ τ (Nat.zero_le _) ?_
 intro v6 w6 cm dk dd;have aD:Hid (qg (λb=>(δ N s.pks.length J).ownBlock=some b) W7 w6):=κ ((((qg.refl _ W7).drewN 1).alc _).trans (qg.of_grown dk));obtain⟨bc,bb,aT,rfl,eS,eT⟩:=cm.shape;have bl:=κ (aD.o.blk U.o.blk aK);have eJ:=U.o.lt;have cz:(ae k.R≠ .data/\ae k.R≠ .pks)/\k.R<W7.heap.size:=⟨by rw[(U.o.all .room).1];exact⟨η,η⟩,eJ⟩;have bn:=κ (U.o.pksPut (y:=⟨(G,o2),n,p⟩) ((aD.o.mono (S':=λb=>(δ N s.pks.length J).ownBlock=some b∨b=k.R) (λb d=>Or.inl d)).set (p:=⟨k.R,14,none⟩) (Or.inr rfl) (δ bc bb aT)) (((qa.drewN W7 1)).al (.cells (Γi G o2 n p os an ao ke ag af) 65)).size (cm.step (qg.set (S:=λb=>(ae b≠ .data/\ae b≠ .pks)/\b<W7.heap.size) (qg.refl _ _) (p:=⟨k.R,14,none⟩) cz (δ bc bb aT))) dd (qB (qp bl.o 14 _) rfl));have bY:w6.cell? ⟨k.R,14,none⟩=some (δ N s.pks.length J):=qb bl.o 14 rfl;have eC:w6.frozen? ⟨k.R,14,none⟩=false:=qd bl.o 14;clear cm dk dd dF dE bC eS eT;refine⟨qi aD.o,H _ _ ?_⟩;clear H K;go_simp
 (refine Ql ?_;intro K H)
 refine⟨qi aD.o,H _ _ ?_⟩;clear H K
 iterate 1 (refine qE rfl rfl (qi aD.o) ?_;intro K H;go_big_quiet_op;go_big_quiet_on)
 (refine Qe ?_;intro K H)
 refine H _ _ ?_;clear H K;refine qA ?_
 have cI:Hid (SlI .u8 (w6.setCell ⟨k.R,14,none⟩ (δ bc bb aT)) (δ ag p.pl.length af) p.pl):=κ (cL.o.l.off2 (D:=λb=>(δ N s.pks.length J).ownBlock=some b∨b=k.R) (λI b d aa=>by
  have e:=bq.o b (au.o.2.2 I b d);rcases aa with aa | aa
  ·rw[cr b aa] at e;cases e
  ·rw[aa,(U.o.all .room).1] at e;cases e) ((aD.o.mono (S':=λb=>(δ N s.pks.length J).ownBlock=some b∨b=k.R) (λb d=>Or.inl d)).set (p:=⟨k.R,14,none⟩) (Or.inr rfl) (δ bc bb aT)))
 have cV:Hid (p.pl≠[]-> ∀b,(δ ag p.pl.length af).ownBlock=some b->b≠k.b/\b≠k.R):=κ (λI b d=>by
  have e:=bq.o b (au.o.2.2 I b d);refine⟨λx=> ?_,λx=> ?_⟩
  ·rw[x,(U.o.all .book).2.1] at e;cases e
  ·rw[x,(U.o.all .room).1] at e;cases e)
 obtain⟨cY,cg⟩:=ν (w6.setCell ⟨k.R,14,none⟩ (δ bc bb aT));rw[cg] at cI bn
 have bV:Hid (qw ([w.heap.size,w4.heap.size]++F) W1 cY):=κ ((ak.o.sub (λb d=>by
  rw[<-av.o];rcases List.mem_append.1 d with e | e
  ·exact List.mem_append_left _ e
  ·exact List.mem_append_right _ (List.mem_append_right _ e))).trans bn.o.2)
 have cB:=κ bn.o.1;obtain⟨fN,fR,bD⟩:=cB.o.blk;have ey:=β20 bD;have eD:=qd bD 20;obtain⟨fz,fA⟩:=eO;clear bD bY eC aK dz dA cr bq aO U aD bl bn cz;have ar:=κ (cB.o.cell 20 (ι (s.cnt.acc+1)) (s':={s with strs:=qx s.strs (G,o2) t2,pks:=s.pks++[⟨(G,o2),n,p⟩],cnt:={s.cnt with acc:=s.cnt.acc+1}}) (λ_ _=>rfl) ⟨rfl,rfl,rfl,rfl,rfl,rfl,rfl,rfl,rfl⟩);have cJ:=κ (cI.o.off2 (λI b d=>(cV.o I b d).2) (qg.set (S:=λb=>b=k.R) (qg.refl _ _) (p:=⟨k.R,20,none⟩) rfl (ι (s.cnt.acc+1))))
 go_upto_region 10 with fail
 (try rw[cg])
 clear cg
 go_upto_region 11 with fail
 obtain⟨aG,ch⟩:=ν (cY.setCell ⟨k.R,20,none⟩ (ι (s.cnt.acc+1)));rw[ch] at ar cJ
 (try rw[ch])
 clear ch ey eD;obtain⟨id,cj⟩: ∃id:Int,(s.pks.length:Int)=id:=⟨_,rfl⟩;have cH:=κ cj
 (try rw[cj])
 clear cj;obtain⟨ap,cc⟩:=ν ([w.heap.size,w4.heap.size]++F);have aE:=κ cc;rw[cc] at ar bV;obtain⟨ad,aY⟩: ∃ad:RmS,{s with strs:=qx s.strs (G,o2) t2,pks:=s.pks++[⟨(G,o2),n,p⟩],cnt:={s.cnt with acc:=s.cnt.acc+1}}=ad:=⟨_,rfl⟩;have en:=κ aY;rw[aY] at ar;have ea:=κ ar.o.1;have bW:=κ (bV.o.trans ar.o.2);have cP:Hid (zc ad):=κ (by rw[<-aY];exact⟨bM.o.keys,bM.o.lane,bM.o.few⟩);have bO:Hid (ad.tab=s.tab/\ad.book=s.book/\ad.clock=s.clock/\qh ad.strs (G,o2)=some t2):=κ (by rw[<-aY];exact⟨rfl,rfl,rfl,xD _ _ _⟩);clear aY cc ar bV;obtain⟨ft,fL,fP,dH⟩:=ea.o;have br:=κ dH;have dO:=κ (bW.o.blk (by rw[<-aE.o];simp) bk.o);have dQ:=κ (bW.o.blk (by rw[<-aE.o];simp) aL.o);have dS:=λ(x:qt aG)=>β11 (qc x.h br.o.blk)
 have aN:=λ(x:qt aG)=>β0 (qc x.h dO.o)
 obtain⟨L,cd⟩:=ν (prR (j8 G) ad.tab.u);have ej:=κ cd;have cR:=κ (λw m=>Hk (br.o.tab.more (w':=w) m) G cP.o.keys cP.o.few);rw[cd] at cR;clear cd dH;refine Qn aG 8 8 [6] ?_
 refine Qq6 ?_
 (refine Ql ?_;intro K H)
 go_call cR.o _ (qa.drewN aG 1) as e bi ⟨⟨v3,rfl,dG,dy⟩,az⟩;obtain⟨fI,fE,aq,rfl,fG,dI,ds⟩:=(br.o.on (qa.drewN aG 1)).ints az dG dy;have aR:Hid (qa aG bi):=κ ((qa.drewN aG 1).trans az);have cO:=κ ds;have dY:=κ dI.at;have es:=κ (bW.o.trans (br.o.at.stay aR.o));have ek:=κ (cJ.o.keep aR.o);clear az dG dy dI ds;refine⟨_,rfl,qk aR.o,H _ _ ?_⟩;clear H K
 iterate 1 (refine qE rfl rfl (qk aR.o) ?_;intro K H;go_big_quiet_op;go_big_quiet_on)
 refine qA ?_;clear dS aN;go_wp2
 go_loopw [93] (λaH wr=> ∃j:Nat,j<=L.length/\aH= ι j/\qI w0 wr k {ad with book:=Ji ad.book (L.take j) id} (aq++ap)/\qw (aq++ap) bi wr/\qg (λb=>b=k.b) bi wr) (λaH _=>L.length-(intOf aH).toNat)
 case atStart=>exact⟨0,τ,rfl,dY.o,qw.refl _ _,qg.refl _ _⟩
 case round=>
  obtain⟨j,eQ,rfl,aX,am,db⟩:=hrel;have ai:=κ aX;have aw:=κ am;have cC:=κ db;clear aX am db;by_cases hlt:j<L.length
  ·have ck:(j:Int)<(L.length:Int):=by omega
   obtain⟨ew,fb,rfl,eN⟩:=cO.o wr (λb d=>aw.o.2 b (by simp[d])) j hlt;have bP:Hid (L.take (j+1)=L.take j++[L[j]]):=κ (by rw[List.take_add_one,List.getElem?_eq_getElem hlt];rfl);generalize L[j]=x at *;obtain⟨fk,fn,aM⟩:=ai.o.blk;have ex:=β0 aM;clear aM
   go_wp2_with (go_at_call 193;(go_call Ns ai.o x id as e cx ⟨⟨v7,rfl⟩,aV,bd,bt⟩;have Y:=κ aV;have ak:=κ bd;have dM:=κ bt;clear aV bd bt))
   go_roundw
   case rel=>exact⟨j+1,τ,by go_num,by have:=Y.o;unfold Ji at this ⊢;rw[bP.o,List.foldl_append];exact this,aw.o.trans ak.o,cC.o.trans dM.o⟩
   case measure=>simp[intOf];omega
  ·obtain rfl:j=L.length:=by omega
   have ck: ¬(L.length:Int)<(L.length:Int):=by omega
   rw[List.take_length] at ai;have dR:=κ (β9 (aw.o.blk (b:=w4.heap.size) (by simp[<-aE.o]) (qc aR.o dQ.o)));have fg:=dR.o;have el:=κ (ek.o.off2 (λI b d=>(cV.o I b d).1) cC.o);obtain⟨cZ,ci⟩:=ν (zJ p.pl);have cD:=κ (Jg _ p.pl wr el.o cK.o.1 cK.o.2);rw[ci] at cD;have ec:=κ ci;clear ci
   go_upto_if 109 with (go_at_call 134;(go_call cD.o as e cx ⟨rfl,dx⟩;have cU:=κ dx;clear dx))
   have Y:=κ (ai.o.on cU.o);have et:=κ (aw.o.trans (ai.o.stay cU.o));obtain⟨O,bx⟩: ∃O:RmS,{ad with book:=Ji ad.book L id}=O:=⟨_,rfl⟩;have eo:=κ bx;rw[bx] at Y;have bp:Hid (qh O.strs (G,o2)=some t2/\O.clock=s.clock):=κ (by rw[<-bx];exact⟨bO.o.2.2.2,bO.o.2.2.1⟩);obtain⟨aS,dc⟩:=ν ((if cZ then false else t2.askedOf));have bG:=κ dc;obtain⟨ak,fj,fm,aC⟩:=Y.o;obtain⟨fe,fs,fK,bw,ba⟩:=aC.strAt bp.o.1;obtain rfl:ab=fe:=by rw[aI.o] at bw;injection bw
   have fc:=β7 ba.blk;have eE:=qd ba.blk 7;have eb:=κ (aC.strSet (t':={t2 with askedOf:=false}) bp.o.1 bw ba (qg.set (S:=λb=>b=ab) (qg.refl _ _) (p:=⟨ab,7,none⟩) rfl (μ false)) (qB (qp ba.blk 7 _) rfl) rfl);clear bx dc aC bw ba fg
   go_cut [] from 110 (λah=>qI w0 ah k {O with strs:=qx O.strs (G,o2) {t2 with askedOf:=aS}} (aq++ap)/\qw (aq++ap) cx ah)
   case first=>
    cases cZ with
    | false=>
     have bI:Hid ({O with strs:=qx O.strs (G,o2) {t2 with askedOf:=aS}}=O):=κ (by rw[<-bG.o];show {O with strs:=qx O.strs (G,o2) t2}=O;rw[ZL _ _ _ bp.o.1]);go_wp2;go_meet;exact⟨by rw[bI.o];exact Y.o,qw.refl _ _⟩
    | true=>
     obtain rfl:false=aS:=bG.o;go_wp2;go_meet;exact eb.o
   case rest=>
   obtain⟨ca,be⟩:=hcut;have eu:=κ (et.o.trans be);obtain⟨fu,fM,fQ,bj⟩:=ca;have bQ:=κ bj;obtain⟨ff,ay,aB,co,bA⟩:=bj.strAt (o:=(G,o2)) (xD _ _ _);obtain rfl:ab=ff:=by rw[aI.o] at co;injection co
   have aF:=κ bA;have dB:k.R≠ay:=λe=>by have:=bA.nb;rw[<-e,(bj.all .room).1] at this;cases this
   have dC: ¬aB.ownBlock=some k.R:=λe=>by have:=(bA.nv _ e).1;rw[(bj.all .room).1] at this;cases this
   have aK: ¬(k.R=ay∨aB.ownBlock=some k.R):=λe=>e.elim dB dC
   have dD: ¬(ab=ay∨aB.ownBlock=some ab):=λe=>e.elim (λe=>aF.o.ne e) (λe=>(aF.o.nv _ e).2 rfl)
   have ee:Hid (O.clock=s.clock):=κ bp.o.2;have dV: ∀x:qz (λb=>b=ay∨aB.ownBlock=some b) wc,x.w'.cell? ⟨k.R,9,none⟩=some (ι s.clock):=λx=>by rw[<-ee.o];exact qb (x.h.blk bQ.o.blk aK) 9 rfl
   have dX:=λ(x:qz (λb=>b=ay∨aB.ownBlock=some b) wc)=>β0 (x.h.blk aF.o.blk dD)
   clear be bj co bA fc eE dB dC;obtain⟨ac,di⟩:=ν ((jP t2.buf n s.clock id).2);have cE:=κ di;clear di
   go_upto_region 20 with fail
   refine QN (λb=>b=ay∨aB.ownBlock=some b) wc 11 11 [10] ?_
   refine Nx ?_
   (refine Ql ?_;intro K H)
   have cM:=κ (CG t2.buf aF.o.ok ay aB n s.clock id bL.o _ (aF.o.buf.on (qa.drewN wc 1)));rw[cE.o] at cM
   (with_reducible refine cM.o.mono ?_)
   rintro e cw ⟨rfl,v14,st⟩;have dL:Hid (qg (λb=>b=ay∨aB.ownBlock=some b) wc cw):=κ (((qg.refl _ wc).drewN 1).trans st.away);have bF:=κ ((bQ.o.on (qa.drewN wc 1)).strBuf (xD _ _ _) aI.o (aF.o.on (qa.drewN wc 1)) st (Eu aF.o.ok bL.o ed.o));simp only[Qy] at bF;have cW:=κ (eu.o.trans ((bQ.o.at.stay (qa.drewN wc 1)).trans bF.o.2));clear st;refine⟨_,rfl,qi dL.o,H _ _ ?_⟩;clear H K dV dX aK dD;refine qA ?_;obtain⟨aA,cp⟩: ∃aA:RmS,{O with strs:=qx O.strs (G,o2) {t2 with buf:=(jP t2.buf n s.clock id).1,askedOf:=aS}}=aA:=⟨_,rfl⟩
   have cF:Hid (∀bX,(if yY ac=0 then aA.book else xG aA.book L id (yY ac))=bX->s.accept (G,o2) p={aA with book:=bX}):=κ (by
    intro bX eM;have eV:Ye t p s.clock s.pks.length={t2 with buf:=(jP t2.buf n s.clock id).1,askedOf:=aS}:=by
     unfold Ye;rw[bo.o,<-bG.o,<-cS.o,<-ec.o,<-cH.o,<-bK.o,<-bH.o,<-aJ.o];cases t.any<;>simp
    have d:t2.buf=t.buf:=by rw[<-cS.o]
    have eI:prR (j8 G) s.tab.u=L:=by rw[<-ej.o,bO.o.1]
    rw[<-eM,<-cp,<-eo.o,<-en.o];unfold RmS.accept;rw[bN.o];simp only[Qy]
    rw[eV,bo.o,eI,cH.o,<-d,cE.o])
   have cQ:Hid (∀w',qw (aq++ap) bi w'->qw F w w'):=κ (λw' h=>(er.o.sub (F':=F) (λb d=>List.mem_append_right _ d)).trans (((es.o.sub (F':=F) (λb d=>by rw[<-aE.o];exact List.mem_append_right _ d))).trans (h.sub (λb d=>by rw[<-aE.o];simp[d]))));have cA:Hid (qI w0 cw k aA (aq++ap)):=κ (by rw[<-cp];exact bF.o.1);clear cp
   go_upto_block 2 with fail
   go_cut [12] from 124 to 129 (λv ah=>v= ι (yY ac)/\yY ac≠0/\ah=cw)
   case first=>
    by_cases e10:ac=10
    ·subst e10;go_wp2;go_meet;exact⟨rfl,ζ,rfl⟩
    ·by_cases e9:ac=9
     ·subst e9;go_wp2;go_meet;exact⟨rfl,ζ,rfl⟩
     ·by_cases e8:ac=8
      ·subst e8;go_wp2;go_meet;exact⟨rfl,ζ,rfl⟩
      ·have fB:(ac==10)=false:=by simp[e10]
       have fD:(ac==9)=false:=by simp[e9]
       have fC:(ac==8)=false:=by simp[e8]
       have bJ:Hid (yY ac=0):=κ (by unfold yY;rw[if_neg e10,if_neg e9,if_neg e8]);clear e10 e9 e8;go_wp2
       (refine bodyPost_ret (v:= .tuple #[]) ?re2 rfl ?_;(case re2=>simp[results,results132,go_sem]))
       exact⟨rfl,by rw[cF.o _ rfl,if_pos bJ.o];exact(cA.o.sub (λb d=>List.mem_append_right _ d)).sub (λb d=>by rw[<-aE.o];exact List.mem_append_right _ d),cQ.o _ cW.o⟩
   case rest=>
   obtain⟨rfl,dj,rfl⟩:=hcut;have bJ:=κ dj;clear dj;generalize yY ac=fv at *;go_wp2
   go_loopw [132] (λaH wr=> ∃j:Nat,j<=L.length/\aH= ι j/\qI w0 wr k {aA with book:=xG aA.book (L.take j) id fv} (aq++ap)/\qw (aq++ap) bi wr) (λaH _=>L.length-(intOf aH).toNat)
   case atStart=>exact⟨0,τ,rfl,cA.o,cW.o⟩
   case round=>
    obtain⟨j,eQ,rfl,aX,am⟩:=hrel;have ai:=κ aX;have aw:=κ am;clear aX am;by_cases hlt:j<L.length
    ·have ck:(j:Int)<(L.length:Int):=by omega
     obtain⟨ew,fb,rfl,eN⟩:=cO.o wr (λb d=>aw.o.2 b (by simp[d])) j hlt;have bP:Hid (L.take (j+1)=L.take j++[L[j]]):=κ (by rw[List.take_add_one,List.getElem?_eq_getElem hlt];rfl);generalize L[j]=x at *;obtain⟨fk,fn,aM⟩:=ai.o.blk;have ex:=β0 aM;clear aM
     go_wp2_with (go_at_call 122;(go_call Xt ai.o x id fv as e cx ⟨rfl,aV,bd,bt⟩;have Y:=κ aV;have ak:=κ bd;clear aV bd bt))
     go_roundw
     case rel=>exact⟨j+1,τ,by go_num,by have:=Y.o;unfold xG at this ⊢;rw[bP.o,List.foldl_append];exact this,aw.o.trans ak.o⟩
     case measure=>simp[intOf];omega
    ·obtain rfl:j=L.length:=by omega
     have ck: ¬(L.length:Int)<(L.length:Int):=by omega
     rw[List.take_length] at ai;go_wp2
     (refine bodyPost_end (v:= .tuple #[]) ?re1 rfl ?_;(case re1=>simp[results,results132,go_sem]))
     exact⟨rfl,by rw[cF.o _ rfl,if_neg bJ.o];exact(ai.o.sub (λb d=>List.mem_append_right _ d)).sub (λb d=>by rw[<-aE.o];exact List.mem_append_right _ d),cQ.o _ aw.o⟩
end
def SmS (s:RdS):Prop:=Byt s.1/\s.1.length<=200
theorem SmS.tk {s:RdS} (h:SmS s) (n:Int):SmS (tkS s n):=⟨h.1.drop _,Nat.le_trans (uN s n) h.2⟩
theorem SmS.wr {s:RdS} (h:SmS s) (x:Int):SmS (wrS s x):=⟨by unfold wrS;split;exact h.1;exact xh,Nat.le_trans (vH s x) h.2⟩
theorem SmS.ss: ∀(n:Nat) {s:RdS},SmS s->SmS (j9 n s).2
 | 0,_,h=>h
 | n+1,_,h=>(SmS.ss n h).tk 4
theorem Kh {b:List Int} (N:Byt b) (O: ¬(200:Int)<b.length):U16 (jl b).1.sq/\Byt (jl b).1.pl/\(jl b).1.pl.length<=200:=by
 have G:SmS (b,0):=⟨N,by show b.length<=200;omega⟩;have I:SmS (s5H b):=((((G.tk 1).tk 1).tk 2).tk 4).tk 4;have J:SmS (yy (fH b) (s5H b)):=by
  unfold yy;split
  ·exact I.wr 2
  ·exact I
 have d:SmS (yj (fH b) (yy (fH b) (s5H b))).2:=by
  unfold yj;split
  ·exact(((SmS.ss _ J).tk 2).tk 2).tk _
  ·exact SmS.ss _ J
 unfold jl;rw[if_neg O];unfold JJ;split
 ·refine⟨?_, ?_⟩
  ·have H:=JH (s:=s2H b) ((G.tk 1).tk 1).1 2 ζ;exact⟨H.1,by have:=H.2;show num (tkB (s2H b).1 ((2:Nat):Int))<=65535;omega⟩
  ·show Byt (vB _ _).1/\(vB _ _).1.length<=200;unfold vB;split
   ·exact⟨xh,η⟩
   ·split
    ·split
     ·unfold xL;split
      ·exact⟨xh,η⟩
      ·split
       ·exact⟨xh,η⟩
       ·exact⟨d.1.take _,by simp only[List.length_take];have:=d.2;omega⟩
     ·exact⟨xh,η⟩
    ·exact d
 ·exact⟨⟨Int.le_refl 0,by show (0:Int)<=65535;omega⟩,xh,Nat.zero_le _⟩
theorem IR (b:List Int):Zd b=Ve b:=by
 unfold Zd Ve;rw[Bool.and_assoc]
section
variable {T:Nat->Tg} {w0 w w':World} {k:RmK} {vp vr:Value} {s:RmS} {F:List Nat}
theorem My (h:RmX T w0 w k vp vr s F) {b:List Int} {q:List (List Int)} (ai:s.queue=b::q):
  Calls prog 128 #[γ k.RQ] w λe w'=> ∃d G,e= .returned (.tuple #[δ d b.length G,true])/\SlI .u8 w' (δ d b.length G) b/\qI w0 w' k {s with queue:=q} F/\qw F w w':=by
 obtain⟨f,Q,aa,ad,U,Y,css,g,a⟩:=h.que;obtain⟨t1,t2,_⟩:=h.all .queue;rw[ai] at a
 match Q,a with
 | c::Q,a=>
  obtain⟨J,ab⟩:=a;have ac:=J;obtain⟨v,rfl,⟨d,G,rfl,_⟩,H⟩:=J.read;refine(MY w _ _ _ f d _ G Q aa ad U Y css g).mono ?_;rintro e w' ⟨rfl,⟨ae,g'⟩,O⟩;have N:qg (λb=>T b≠ .data) w w':=O.mono λb H=>by
   rcases H with rfl | rfl
   ·rw[t1];simp
   ·rw[t2];simp
  obtain⟨af,ag⟩:=h.ring (q:=q) O (λD ah=>⟨_,Q,aa,ae,U,Y,_,g',ab.mono λc y aj=>(aj.step N).other λb H=>(ah b H).elim Or.inl (λx=>Or.inl (by rw[h.fresh b x];simp))⟩);obtain⟨v2,I,s2,_⟩:=ac w' N;injection I with I
  subst I;exact⟨d,G,rfl,s2,af,ag⟩
structure Ia (s:RmS):Prop where
 subs:zc s
 pub:Zy s
 malf:0<=s.cnt.malf/\s.cnt.malf<=1000000000
 told:0<=s.cnt.told/\s.cnt.told<=1000000000
 strange:0<=s.cnt.strange/\s.cnt.strange<=1000000000
 acc:0<=s.cnt.acc/\s.cnt.acc<=1000000000
 pks:s.pks.length<=1000000
 clock:xz s.clock
 strs: ∀o t,qh s.strs o=some t->(t.any=true->xz t.great)/\ ∀sq,U16 sq->xz (yV t sq)
 orgs: ∀x o,qh s.tab.o x=some o->(qh s.strs o).isSome=true
 queue: ∀b∈s.queue,Byt b/\b.length<=1000000
 ids: ∀o t,qh s.strs o=some t-> ∀h∈t.buf.holds,0<=h.2.2/\h.2.2<(s.pks.length:Int)
 pkok: ∀a∈s.pks,uf a.pk/\uj a.pk
 owes: ∀x id,qh s.book (x,id)=some 0->(qh s.lanes x).isSome=true
theorem GO {w:World} {v:Value} {b:List Int} (d:SlI .u8 w v b) (G:Byt b):Calls prog 16 #[v] w (yS (jl b) w):=by
 by_cases hl:(200:Int)<b.length
 ·exact Jc v b w d hl
 ·exact Qd v b w d G hl
theorem Im (h:qI w0 w k s F) (m:qa w w') {I G H:Value} {p:Pk} (N:PkS w' I G H p) (n: ∀b,(I.ownBlock=some b∨G.ownBlock=some b∨H.ownBlock=some b)->w.heap.size<=b):
  ∃Fn,qI w0 w' k s (Fn++F)/\DT (· ∈Fn) I G H p/\ ∀g∈Fn,g∉F:=by
 obtain⟨T,vp,ad,x⟩:=h;have key: ∀{U:IntKind} {v:Value} {l:List Int},SlI U w' v l->v∈[I,G,H]->(∀b,v.ownBlock=some b->w.heap.size<=b)->l≠[]-> ∀g,v.ownBlock=some g->g∈([I,G,H].filterMap Value.ownBlock).filter (λb=>decide (w.heap.size<=b/\b<w'.heap.size)):=by
  intro U v l ac ab aa Y g J;rw[List.mem_filter];exact⟨List.mem_filterMap.2 ⟨v,ab,J⟩,decide_eq_true ⟨aa g J,ac.old Y J⟩⟩
 have O: ∀b∈([I,G,H].filterMap Value.ownBlock).filter (λb=>decide (w.heap.size<=b/\b<w'.heap.size)),w.heap.size<=b/\b<w'.heap.size:=λb d=>of_decide_eq_true (List.mem_filter.1 d).2
 exact⟨_,⟨T,vp,ad,x.adds m O⟩,⟨key N.s η (λb d=>n b (Or.inl d)),key N.e η (λb d=>n b (Or.inr (Or.inl d))),key N.l η (λb d=>n b (Or.inr (Or.inr d)))⟩,λg J hF=>by
  have ae:=(O g J).1;have af:=(x.law g hF).2.2
  omega⟩
theorem Mx (ca:qI w0 w k s F) (aR:Ia s) {b:List Int} {q:List (List Int)} (ay:s.queue=b::q) (w1 w2:Int) (acc:Bool):
  Calls prog 79 #[γ k.R,θ #[ι w1,ι w2],acc] w λe w'=>e= .returned (.tuple #[])/\qI w0 w' k s.read F/\qw F w w':=by
 obtain⟨T,vp,ch,h⟩:=ca;obtain⟨W1,aO⟩:=ν (w.alloc (.cells #[ι w1,ι w2] 37));have bi:Hid (qa w W1):=κ (by rw[<-aO];exact qa.alloc _ _);have bh:=κ (h.on bi.o);have ao:=κ (h.at.stay bi.o);have G:=κ aR;obtain⟨bu,bv⟩:=aR.queue b (by rw[ay];exact List.mem_cons_self);have ak:=κ (And.intro bu bv);obtain⟨sq,az⟩: ∃sq:RmS,{s with queue:=q}=sq:=⟨_,rfl⟩;have U:=κ az;have bg:=κ (My bh.o ay);rw[az] at bg;have ck:=β10 bh.o.blk;have af:Hid (s.read=if Ve b then sq.tell b else sq.media b):=κ (by unfold RmS.read;rw[ay];simp only[az]);clear h aR ay bu bv az;obtain⟨c,aP⟩:=ν (Ve b);have bP:Hid (Zd b=c):=κ (by rw[IR,aP]);rw[aP] at af;have aK:Hid (zc sq/\Zy sq/\(0<=sq.cnt.malf/\sq.cnt.malf<=1000000000/\0<=sq.cnt.told/\sq.cnt.told<=1000000000)):=κ (by rw[<-U.o];exact⟨⟨G.o.subs.keys,G.o.subs.lane,G.o.subs.few⟩,G.o.pub,G.o.malf.1,G.o.malf.2,G.o.told.1,G.o.told.2⟩);clear aP;obtain⟨bq,aQ⟩:=ν ((jl b).2);obtain⟨p,aS⟩:=ν ((jl b).1);have aJ:=κ aQ;have bf:=κ aS;have aL:=κ (λw' v (sl:SlI .u8 w' v b)=>GO sl ak.o.1);unfold yS at aL;rw[aQ,aS] at aL;clear aQ aS
 go_enter func79,ntmps79
 go_upto_region 1 with fail
 (try rw[aO])
 clear aO
 go_upto_if 21 with (first | (go_at_call 128;(go_call bg.o as e bG ⟨cr,ct,rfl,bE,bt,t3⟩;have aM:=κ bE;have aj:=κ bt;have bn:=κ t3;clear bE bt t3)) | (go_at_call 129;(go_call V3 _ b bG aM.o as e w4 ⟨rfl,bZ⟩;rw[bP.o];obtain rfl:=bZ)))
 cases c with
 | true=>
  go_wp2_with (go_at_call 130;(go_call Mt aj.o aK.o.1 aK.o.2.1 b _ aM.o ak.o.1 ak.o.2 aK.o.2.2 as e w5 ⟨rfl,ar,t5⟩;have bN:=κ ar;have bX:=κ t5;clear ar t5))
  (refine bodyPost_ret (v:= .tuple #[]) ?re2 rfl ?_;(case re2=>simp[results,results79,go_sem]))
  exact⟨rfl,by rw[af.o];exact bN.o,ao.o.trans (bn.o.trans bX.o)⟩
 | false=>
  go_upto_if 31 with (go_at_call 16;(go_call aL.o _ _ aM.o as e w5 ⟨cA,cw,cx,rfl,ai,bz,bB⟩;obtain⟨os,aD,rfl,_⟩:=id ai.s;obtain⟨aE,ke,rfl,_⟩:=id ai.e;obtain⟨aF,aC,rfl,_⟩:=id ai.l;have bj:=κ bz;have bl:=κ ai;have bS:=κ bB;clear bz bB ai))
  obtain⟨W6,ad⟩:=ν (w5.alloc (.cells (Γh p os aD aE ke aF aC) 63));have bk:Hid (qa bG W6):=κ (by rw[<-ad];exact bj.o.al _);obtain⟨Fn,ar,cg,bY⟩:=Im aj.o bj.o bl.o bS.o;have bR:=κ (ar.on (by rw[<-ad];exact qa.alloc _ _:qa w5 W6));have bT:=κ cg;have bL:=κ bY;have bV:=κ (bl.o.keep (by rw[<-ad];exact qa.alloc _ _:qa w5 W6));have ba:Hid (W6.heap[w5.heap.size]? =some (.cells (Γh p os aD aE ke aF aC) 63 (0,0))):=κ (by rw[<-ad];exact qj _ _);have bo:=κ (bn.o.trans (aj.o.stay bk.o))
  (try rw[ad])
  clear ad;by_cases he:bq=0
  ·subst he;have am:Hid (sq.media b=match qh sq.tab.o p.sc with | none=>{sq with cnt:={sq.cnt with strange:=sq.cnt.strange+1}} | some o=>sq.accept o p):=κ (by unfold RmS.media;rw[aJ.o,if_pos rfl,bf.o];rfl)
   go_upto_region 7 with fail
   obtain⟨T,vp,ch,bI⟩:=bR.o;have aq:=κ bI;have an:=κ (λw' (m:qa W6 w')=>Le (aq.o.tab.more m) p.sc);have bK:=λ(x:qt W6)=>β11 (qc x.h aq.o.blk)
   have bU:=λ(x:qt W6)=>β4 (qc x.h ba.o)
   clear bI;obtain⟨ab,ah⟩:=ν (qh sq.tab.o p.sc);obtain⟨N,av⟩:=ν ((ab.getD (0,0)).1);obtain⟨o2,aw⟩:=ν ((ab.getD (0,0)).2);obtain⟨bC,ax⟩:=ν (ab.isSome);rw[ah,av,aw,ax] at an
   go_cut [10,11] from 41 to 51 (λv10 v11 bH=> ∃A,v10= γ A/\v11= μ bC/\bH.heap[A]? =some (.cells #[ι N,ι o2] 58 (0,0))/\qa W6 bH)
   case first=>
    refine zB W6 14 (.op 0 false (.op 1 false (.op 2 false (.op 3 false (.op 4 false (.op 5 false (.op 6 false (.br [7,11] λk=>if k=7 then .op 8 false (.op 9 false (.op 10 false (.op 11 true (.op 12 true (.op 13 false (.done)))))) else .op 7 true (.op 8 false (.op 9 false (.op 10 false (.op 12 true (.op 13 false (.done)))))))))))))) ξ ξ ?_
    repeat (first | (refine jg rfl rfl (qk ρ) ?_) | (refine qH rfl rfl (qk ρ) ?_;intro K d;go_big_quiet_op;go_big_quiet_on))
    refine wP ζ ?_ ?_
    ·(refine qO rfl rfl ?_;intro K d;unfold jn;go_simp)
     refine(an.o _ (qa.drewN W6 1)).mono ?_;rintro e w8 ⟨rfl,bA⟩;have J:Hid (qa W6 w8):=κ ((qa.drewN W6 1).trans bA);clear bA;refine⟨_,rfl,qk J.o,d _ _ ?_⟩;clear d K
     repeat (first | (refine jg rfl rfl (qk J.o) ?_) | (refine qH rfl rfl (qk J.o) ?_;intro K d;go_big_quiet_op;go_big_quiet_on))
     (refine qO rfl rfl ?_;intro K d;unfold jn;go_simp)
     refine⟨qk (J.o.al _),d _ _ ?_⟩;clear d K;obtain⟨w9,aB⟩:=ν (w8.alloc (.cells #[ι 0,ι 0] 58));obtain⟨A,Y⟩:=ν (w8.heap.size);have I:Hid (w9.heap[A]? =some (.cells #[ι 0,ι 0] 58 (0,0))):=κ (by rw[<-aB,<-Y];exact qj w8 _);have aa:Hid (qa W6 w9):=κ (by rw[<-aB];exact J.o.al _);have ae:Hid (W6.heap.size<=A):=κ (by rw[<-Y];exact J.o.size)
     (try rw[aB])
     (try rw[Y])
     clear aB Y;have z0:=β0 I.o;have aZ:=β1 I.o;have aX:=qd I.o 0;have aY:=qd I.o 1
     repeat (first | (refine jg rfl rfl (qk aa.o) ?_) | (refine qH rfl rfl (qk aa.o) ?_;intro K d;go_big_quiet_op;go_big_quiet_on))
     (refine qO rfl rfl ?_;intro K d;unfold jn;go_simp)
     have H:Hid (qa W6 ((w9.setCell ⟨A,0,none⟩ (ι N)).setCell ⟨A,1,none⟩ (ι o2))):=κ ((aa.o.st ae.o _).st ae.o _);have ac:=κ (qB (qp (qp I.o 0 (ι N)) 1 (ι o2)) (cs':= #[ι N,ι o2]) rfl);refine⟨qk H.o,d _ _ ?_⟩;clear d K z0 aZ aX aY
     repeat (first | (refine jg rfl rfl (qk H.o) ?_) | (refine qH rfl rfl (qk H.o) ?_;intro K d;go_big_quiet_op;go_big_quiet_on))
     refine zg ?_;go_wp2;go_meet;exact⟨A,rfl,rfl,ac.o,H.o⟩
    ·(refine qO rfl rfl ?_;intro K d;unfold jn;go_simp)
     refine⟨qk ((qa.drewN W6 1).al _),d _ _ ?_⟩;clear d K;obtain⟨w8,aA⟩:=ν ((W6.drewN 1).alloc (.cells #[ι 0,ι 0] 58));obtain⟨A,Y⟩:=ν (W6.heap.size);have bJ:Hid (w8.heap[A]? =some (.cells #[ι 0,ι 0] 58 (0,0))):=κ (by rw[<-aA,<-Y];exact qj (W6.drewN 1) _);have J:Hid (qa W6 w8):=κ (by rw[<-aA];exact(qa.drewN W6 1).al _);have ae:Hid (W6.heap.size<=A):=κ (by rw[<-Y];exact(qa.drewN W6 1).size)
     (try rw[aA])
     (try rw[Y])
     clear aA Y
     repeat (first | (refine jg rfl rfl (qk J.o) ?_) | (refine qH rfl rfl (qk J.o) ?_;intro K d;go_big_quiet_op;go_big_quiet_on))
     (refine qO rfl rfl ?_;intro K d;unfold jn;go_simp)
     refine(an.o _ J.o).mono ?_;rintro e w9 ⟨rfl,aV⟩;have aa:=κ (J.o.trans aV);have I:=κ (qc aV bJ.o);clear aV;refine⟨_,rfl,qk aa.o,d _ _ ?_⟩;clear d K;have z0:=β0 I.o;have aZ:=β1 I.o;have aX:=qd I.o 0;have aY:=qd I.o 1
     repeat (first | (refine jg rfl rfl (qk aa.o) ?_) | (refine qH rfl rfl (qk aa.o) ?_;intro K d;go_big_quiet_op;go_big_quiet_on))
     (refine qO rfl rfl ?_;intro K d;unfold jn;go_simp)
     have H:Hid (qa W6 ((w9.setCell ⟨A,0,none⟩ (ι N)).setCell ⟨A,1,none⟩ (ι o2))):=κ ((aa.o.st ae.o _).st ae.o _);have ac:=κ (qB (qp (qp I.o 0 (ι N)) 1 (ι o2)) (cs':= #[ι N,ι o2]) rfl);refine⟨qk H.o,d _ _ ?_⟩;clear d K z0 aZ aX aY
     repeat (first | (refine jg rfl rfl (qk H.o) ?_) | (refine qH rfl rfl (qk H.o) ?_;intro K d;go_big_quiet_op;go_big_quiet_on))
     refine zg ?_;go_wp2;go_meet;exact⟨A,rfl,rfl,ac.o,H.o⟩
   case rest=>
   obtain⟨A,rfl,rfl,bp,bx⟩:=hcut;have ac:=κ bp;have H:=κ bx;clear bp bx bK bU an;have ap:=κ (aq.o.on H.o);have bm:=κ (bo.o.trans ((aq.o.sub (F':=F) (λb ag=>List.mem_append_right _ ag)).at.stay H.o));cases bC with
   | false=>
    have cd:ab=none:=by
     cases ab with
     | none=>rfl
     | some o=>cases ax
    have aI:Hid (sq.media b={sq with cnt:={sq.cnt with strange:=sq.cnt.strange+1}}):=κ (by rw[am.o,ah,cd]);have cf:0<=sq.cnt.strange/\sq.cnt.strange<=1000000000:=by rw[<-U.o];exact G.o.strange
    obtain⟨cu,cv⟩:=cf;have cm:=β18 ap.o.blk;have co:=qd ap.o.blk 18;have bb:=κ (ap.o.at.cell 18 (ι (sq.cnt.strange+1)) (s':={sq with cnt:={sq.cnt with strange:=sq.cnt.strange+1}}) (λ_ _=>rfl) ⟨rfl,rfl,rfl,rfl,rfl,rfl,rfl,rfl,rfl⟩);go_wp2
    (refine bodyPost_ret (v:= .tuple #[]) ?re3 rfl ?_;(case re3=>simp[results,results79,go_sem]))
    exact⟨rfl,by rw[af.o,if_neg ζ,aI.o];exact bb.o.1.sub (λb ag=>List.mem_append_right _ ag),ao.o.trans (bm.o.trans (bb.o.2.sub (λb ag=>List.mem_append_right _ ag)))⟩
   | true=>
    obtain⟨o,au⟩: ∃o,ab=some o:=by
     cases ab with
     | none=>cases ax
     | some o=>exact⟨o,rfl⟩
    have aN:o=(N,o2):=by rw[au] at av aw;rw[<-av,<-aw];rfl
    have aI:Hid (sq.media b=sq.accept (N,o2) p):=κ (by rw[am.o,ah,au,aN]);have bw:(qh sq.strs (N,o2)).isSome=true:=by
     have O:=ah;rw[au,aN] at O;rw[<-U.o] at O ⊢;exact G.o.orgs _ _ O
    obtain⟨t,aT⟩:=Option.isSome_iff_exists.1 bw
    obtain⟨aG,aW,bD⟩:=Kh ak.o.1 (by
     intro cb;have O:=aJ.o;unfold jl at O;rw[if_pos cb] at O
     cases O)
    rw[bf.o] at aG aW bD;have aU:(t.any=true->xz t.great)/\ ∀sq,U16 sq->xz (yV t sq):=by
     have O:=aT;rw[<-U.o] at O;exact G.o.strs _ _ O
    have be:=κ (λ(ce:zc sq) (hck:xz sq.clock) (hlen:sq.pks.length<=1000000) (hcnt:0<=sq.cnt.acc/\sq.cnt.acc<=1000000000)=>FI ap.o.at ce N o2 aT p _ _ _ (bV.o.keep H.o) bT.o bL.o aG (aU.2 _ aG) aU.1 hck hlen hcnt aW τ);have bO:=κ (be.o (by rw[<-U.o];exact⟨G.o.subs.keys,G.o.subs.lane,G.o.subs.few⟩) (by rw[<-U.o];exact G.o.clock) (by rw[<-U.o];exact G.o.pks) (by rw[<-U.o];exact G.o.acc));have a0:=β0 ac.o;have ci:=β1 ac.o;have bQ:Hid (wc.rangeAt w5.heap.size 0 (Γh p os aD aE ke aF aC)):=κ (xy (qc H.o ba.o));clear be aU aG aW bD bw aT au aN ah av aw ax
    go_wp2_with (first | (refine wpList_load_mid rfl 63 (.tmp 8) rfl w5.heap.size 0 rfl (Γh p os aD aE ke aF aC) _ bQ.o underlying63 rfl ξ ?_) | (go_at_call 132;(go_call bO.o as e cB ⟨rfl,bs,bF⟩;have bM:=κ bs;have bW:=κ bF;clear bs bF)))
    (refine bodyPost_end (v:= .tuple #[]) ?re1 rfl ?_;(case re1=>simp[results,results79,go_sem]))
    exact⟨rfl,by rw[af.o,if_neg ζ,aI.o];exact bM.o,ao.o.trans (bm.o.trans bW.o)⟩
  ·have cj:(bq != 0)=true:=by simp[he]
   have am:Hid (sq.media b={sq with cnt:={sq.cnt with malf:=sq.cnt.malf+1}}):=κ (by unfold RmS.media;rw[aJ.o,if_neg he]);clear he;have cc:0<=sq.cnt.malf/\sq.cnt.malf<=1000000000:=by rw[<-U.o];exact G.o.malf
   obtain⟨cp,cq⟩:=cc;have bc:=κ (aj.o.on bk.o);obtain⟨cy,cz,aH⟩:=bc.o.blk;have cl:=β17 aH;have cn:=qd aH 17;clear aH;have bd:=κ (bc.o.cell 17 (ι (sq.cnt.malf+1)) (s':={sq with cnt:={sq.cnt with malf:=sq.cnt.malf+1}}) (λ_ _=>rfl) ⟨rfl,rfl,rfl,rfl,rfl,rfl,rfl,rfl,rfl⟩);go_wp2
   (refine bodyPost_ret (v:= .tuple #[]) ?re4 rfl ?_;(case re4=>simp[results,results79,go_sem]))
   exact⟨rfl,by rw[af.o,if_neg ζ,am.o];exact bd.o.1,ao.o.trans (bo.o.trans bd.o.2)⟩
end
def acC (a:AcS) (vs ve vl:Value):List Value:=[.int .i64 a.o.1,.int .i64 a.o.2,.int .i64 a.num,.bool a.pk.mr,.int .u8 a.pk.ty,.int .u16 a.pk.sq,.int .u32 a.pk.st,.int .u32 a.pk.sc,vs,.bool a.pk.has,.int .u16 a.pk.pr,ve,vl]
def RmP (cs:List Value) (a:AcS) (w0 w:World) (k:RmK) (s:RmS) (F:List Nat):Prop:= ∃T vp vr,RmX T w0 w k vp vr s F/\jw RAc (λb=>T b≠ .data/\T b≠ .pks) w cs a
section
variable {T:Nat->Tg} {w0 w w':World} {k:RmK} {vp vr:Value} {s:RmS} {F:List Nat} {cs:List Value} {a:AcS}
theorem RmP.at (h:RmP cs a w0 w k s F):qI w0 w k s F:=by
 obtain⟨T,vp,d,x,_⟩:=h;exact⟨T,vp,d,x⟩
theorem RmP.on (h:RmP cs a w0 w k s F) (m:qa w w'):RmP cs a w0 w' k s F:=by
 obtain⟨T,vp,G,x,d⟩:=h;exact⟨T,vp,G,x.on m,d.step (qg.of_more m)⟩
theorem RmP.adds {Fn:List Nat} (h:RmP cs a w0 w k s F) (m:qa w w') (G: ∀b∈Fn,w.heap.size<=b/\b<w'.heap.size):RmP cs a w0 w' k s (Fn++F):=by
 obtain⟨T,vp,H,x,d⟩:=h;exact⟨T,vp,H,x.adds m G,d.step (qg.of_more m)⟩
theorem RmP.pk {H d G:Value} (h:RmP (acC a H d G) a w0 w k s F):PkS w H d G a.pk:=by
 obtain⟨T,vp,J,x,I⟩:=h;obtain⟨v1,v2,v3,e,pk⟩:=I.read;unfold acC at e;simp only[List.cons.injEq,and_true,true_and] at e;obtain⟨rfl,rfl,rfl⟩:=e;exact pk
theorem RmX.growP (h:RmX T w0 w k vp vr s F) {t:Tg} (G:t≠ .data) (H:t≠ .pks) (J:qg (λb=>T b=t) w w') (I:jw RAc (λb=>T b≠ .data/\T b≠ .pks) w cs a):jw RAc (λb=>jZ T t w w' b≠ .data/\jZ T t w w' b≠ .pks) w' cs a:=
 (I.step (J.mono λb d=>by rw[d];exact⟨G,H⟩)).other λb d=>Or.inl ⟨λe=>d.1 ((jF h.fresh η (Ne.symm G) b).2 e),λe=>d.2 ((jF h.fresh η (Ne.symm H) b).2 e)⟩
theorem RmX.lanePutX (h:RmX T w0 w k vp vr s F) {x:Int} {l l':LnS} {p:Nat} (U:qh s.lanes x=some l) (I:qh k.LA x=some p) (b:zw (xf (λb=>T b= .lane x) w w') w' p l') (a:qg (λb=>T b= .lane x) w w'):
  RmX (jZ T (.lane x) w w') w0 w' k vp vr {s with lanes:=qx s.lanes x l'} F/\qw F w w':=by
 have J:=h.fresh;exact h.own (t:= .lane x) (k':=k) (vp':=vp) (vr':=vr) (s':={s with lanes:=qx s.lanes x l'}) ⟨η,η⟩ a
  ⟨λab aa G d=>by
   rw[I] at G;rw[xD] at d;injection G with G
   injection d with d
   subst G d;rw[wW J η]
   exact b,by rw[I,xD];rfl⟩
  (λu N Y y=>by
   cases u<;>first | exact y | skip
   rename_i O;have H:O≠x:=λe=>N (by rw[e])
   exact⟨λp l G d=>y.1 p l G (by rw[vF _ _ H] at d;exact d),by rw[vF _ _ H];exact y.2⟩)
theorem RmX.bookX (h:RmX T w0 w k vp vr s F) {m:Bk} (b:jy w' k.B k.b m) (a:qg (λx=>x=k.b) w w'):RmX (jZ T .book w w') w0 w' k vp vr {s with book:=m} F/\qw F w w':=by
 obtain⟨H,d,_⟩:=h.all .book;have G:=h.fresh;exact h.own (t:= .book) (k':=k) (vp':=vp) (vr':=vr) (s':={s with book:=m}) ⟨η,η⟩ (a.mono λb I=>by rw[I];exact d) ⟨(jd G η _).2 (Or.inl H),(jd G η _).2 (Or.inl d),b⟩ (λu J N x=>by cases u<;>first | exact x | exact absurd rfl J)
theorem CD (h:RmP cs a w0 w k s F) (sub id f:Int):
  Calls prog 122 #[θ #[γ k.B],ι sub,ι id,ι f] w λe w'=>e= .returned (.tuple #[])/\RmP cs a w0 w' k {s with book:=jp s.book sub id f} F/\qw F w w':=by
 obtain⟨T,vp,O,x,G⟩:=h;have J:=(x.all .book).2.1;refine(gI x.bok sub id f).mono ?_;rintro e w' ⟨rfl,b,d⟩;obtain⟨H,I⟩:=x.bookX b d;exact⟨rfl,⟨_,_,_,H,x.growP η η (d.mono λb N=>by rw[N];exact J) G⟩,I⟩
theorem Mz (h:RmP cs a w0 w k s F) (x:ItS) (os J N:Option Addr) (I ke H:Nat) (ag:PkS w (δ os x.pk.ss.length I) (δ J x.pk.ex.length ke) (δ N x.pk.pl.length H) x.pk) (af:uf x.pk) (ah:uj x.pk)
  {sub:Int} {l:LnS} {pl:Nat} (O:qh s.lanes sub=some l) (Y:qh k.LA sub=some pl):
  Calls prog 136 #[γ pl,(Γj x os I J ke N H)] w λe w'=>e= .returned (.tuple #[ι (xp l x).2.1,μ (xp l x).2.2.1,ι (xp l x).2.2.2])/\
   RmP cs a w0 w' k {s with lanes:=qx s.lanes sub (xp l x).1} F/\qw F w w'/\qg (λb=>b≠k.R/\b≠k.ML/\b∉F) w w':=by
 obtain⟨T,vp,ak,y,aa⟩:=h;have ab:=(y.all .room).1;have ac:=(y.all .lns).1;have ad:=y.law;obtain⟨p2,U,ae⟩:=y.laneAt O;obtain rfl:p2=pl:=by rw[Y] at U;injection U with e;exact e.symm
 refine(Ij ae x os J N I ke H ag af ah).mono ?_;rintro e w' ⟨rfl,b,G⟩;obtain⟨ai,aj⟩:=y.lanePutX O Y b G;exact⟨rfl,⟨_,_,_,ai,y.growP η η G aa⟩,aj,G.mono λb d=>⟨λe=>by rw[e,ab] at d;(cases d),λe=>by rw[e,ac] at d;(cases d),λe=>by rw[(ad b e).1] at d;(cases d)⟩⟩
theorem RmX.pkRow (h:RmX T w0 w k vp vr s F) {i:Nat} (hi:i<s.pks.length): ∃g cap os H I G ke d,vp= δ (some ⟨g,0,none⟩) s.pks.length cap/\T g= .pks/\g<w.heap.size/\(∀j v,(acC s.pks[i] (δ os s.pks[i].pk.ss.length G) (δ H s.pks[i].pk.ex.length ke) (δ I s.pks[i].pk.pl.length d))[j]? =some v->w.cell? ⟨g,i* 13+j,none⟩=some v)/\
  RmP (acC s.pks[i] (δ os s.pks[i].pk.ss.length G) (δ H s.pks[i].pk.ex.length ke) (δ I s.pks[i].pk.pl.length d)) s.pks[i] w0 w k s F:=by
 obtain⟨⟨⟨xs,Y,r⟩,_⟩,ac⟩:=h.all .pks;rcases id Y.2 with ⟨_,ad⟩ | ⟨g,cap,cur,rfl,af,N,ae,ag,_⟩
 ·omega
 ·have O:=r i hi;obtain⟨aj,ah,ai,e,pk⟩:=O.read;obtain⟨os,G,rfl,_⟩:=id pk.s;obtain⟨H,ke,rfl,_⟩:=id pk.e;obtain⟨I,d,rfl,_⟩:=id pk.l;refine⟨g,cap,os,H,I,G,ke,d,rfl,ac g rfl,lt_of_block N,λj v U=> ?_,T,_,vr,h, ?_⟩
  ·have ab:j<13:=by
    have:=(List.getElem?_eq_some_iff.1 U).1
    simpa [acC] using this
   rw[Y.cellAt _ τ];have J:=congrArg (λl:List Value=>l[j]?) e;simp only[List.getElem?_take,List.getElem?_drop] at J;rw[if_pos ab] at J;rw[J];exact U
  ·have aa:(xs.drop (i* 13)).take 13=acC s.pks[i] (δ os s.pks[i].pk.ss.length G) (δ H s.pks[i].pk.ex.length ke) (δ I s.pks[i].pk.pl.length d):=e;rw[<-aa];exact O.other λb N=>Or.inl (Or.inl N)
end
end Go.Proofs.YtlmllmonabafjaaGreatDoor
