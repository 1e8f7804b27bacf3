/- x -/
import Derived.Test.YtlmllmonabafjaaGreatDoorMh12
namespace Go.Proofs.YtlmllmonabafjaaGreatDoor
open Option renaming some->ϊ,none->ϋ
open Bool renaming true->ό,false->ύ
open Go.Value renaming bool->μ,slice->δ,pointer->π,agg->θ
open Go.IntKind renaming i64->ι,u8->υ,u16->φ,u32->ω,i32->χ,u64->ψ
open _root_.Go.Proofs.Tryz
set_option linter.all false
set_option maxHeartbeats 8000000
open Go.RowKit
set_option maxRecDepth 100000
variable {s s':RmS} {x:Int} {n:Nat} {b:List Int} {F:List Nat} {w w' w0:World} {l:LnS} {k:RmK} {K V α:Type} {vp vr v:Value} {e:Option (Int×Int)} {o:Og} {T:Nat->Tg} {P P':Int->Int->Prop} {q:List (List Int)} {f:RmS->α->RmS} {t' t:zu} {a:Option α}
def Qy [DecidableEq K] (m:List (K×V)) (k:K) (v u:V):qx (qx m k v) k u=qx m k u:=by
 induction m with
 | nil=>simp[qx]
 | cons p m ih=>
  obtain⟨a,x⟩:=p;by_cases e:k=a
  ·simp[qx,e]
  ·simp[qx,e,ih]
def ZL [DecidableEq K] (m:List (K×V)) (k:K) (v:V) (h:qh m k=ϊ v):qx m k v=m:=by
 induction m with
 | nil=>cases h
 | cons p m ih=>
  obtain⟨a,x⟩:=p;by_cases e:k=a
  ·simp[qh,e] at h;simp[qx,e,h]
  ·simp[qh,e] at h;simp[qx,e,ih h]
def DT (P:Nat->Prop) (vs ve vp:Value) (p:Pk):Prop:=(p.ss≠[]-> ∀g,vs.ownBlock=ϊ g->P g)/\(p.ex≠[]-> ∀g,ve.ownBlock=ϊ g->P g)/\(p.pl≠[]-> ∀g,vp.ownBlock=ϊ g->P g)
def SlI.stay {k:IntKind} {l:List Int} (h:SlI k w v l) (J:l≠[]-> ∀b,v.ownBlock=ϊ b->b∈F) (a:qw F w w'):SlI k w' v l:=by
 obtain⟨O,cap,rfl,d,H,I⟩:=h;refine⟨O,cap,rfl,d,λi hi=> ?_,I⟩;obtain⟨b,U,rfl,N,M⟩:=H i hi;exact⟨b,U,rfl,ϗ N a.1,by rw[World.cell?_of_block (a.2 b (J (λe=>by rw[e] at hi;simp at hi) b rfl))];exact M⟩
def PkS.stay {I H:Value} {p:Pk} (h:PkS w I H vp p) (d:DT (· ∈F) I H vp p) (a:qw F w w'):PkS w' I H vp p:=
 ⟨h.s.stay d.1 a,h.e.stay d.2.1 a,h.l.stay d.2.2 a⟩
section
variable {w0 w w':World} {k:RmK} {s:RmS} {F Fn:List Nat}
def FI (eF:qI w0 w k s (Fn++F)) (dt:zc s) (H o2:Int) (am:qh s.strs (H,o2)=ϊ t) (p:Pk) (bh bf bg:Value) (aW:PkS w bh bf bg p)
  (dg:DT (· ∈Fn) bh bf bg p) (dh: ∀g∈Fn,g∉F) (dr:U16 p.sq) (dm:xz (yV t p.sq)) (aj:t.any=ό->xz t.great) (df:xz s.clock) (fH:s.pks.length<=1000000) (eO:0<=s.cnt.acc/\s.cnt.acc<=1000000000) (dn:Byt p.pl) (dp:p.pl.length<=1000000):
  Calls prog 132 #[γ k.R,θ #[ι H,ι o2],(Γq p bh bf bg)] w λe w'=>e= .returned (.tuple #[])/\qI w0 w' k (s.accept (H,o2) p) F/\qw F w w':=by
 obtain⟨w4,bz⟩:=ν (w.alloc (.cells #[ι H,ι o2] 58));obtain⟨W1,bu⟩:=ν (w4.alloc (.cells (Γq p bh bf bg) 63));have bB:ql w w4:=by rw[<-bz];exact ql.alloc _ _
 have ct:ql w4 W1:=by rw[<-bu];exact ql.alloc _ _
 have bk:Hid (W1.heap[w.heap.size]? =ϊ (.cells #[ι H,ι o2] 58 (0,0))):=κ (qq ct (by rw[<-bz];exact qj w _));have aL:Hid (W1.heap[w4.heap.size]? =ϊ (.cells (Γq p bh bf bg) 63 (0,0))):=κ (by rw[<-bu];exact qj w4 _);have bU:=κ (bB.trans ct);obtain⟨T,vp,fl,h⟩:=eF
 have bZ:RmX T w0 W1 k vp fl s ([w.heap.size,w4.heap.size]++(Fn++F)):=h.adds bU.o (λb d=>by
  have eG:=qn bk.o;have eH:=qn aL.o;have:=bB.size;simp at d;rcases d with rfl | rfl
  ·exact⟨ϔ _,eG⟩
  ·exact⟨this,eH⟩)
 have aP:=κ bZ;have ep:=κ bB;have eh:Hid (∀b∈Fn,b<w.heap.size):=κ (λb d=>(h.law b (ϰ _ d)).2.2);have er:=κ (h.at.stay bU.o);obtain⟨ab,fq,vb,dq,dw⟩:=bZ.strAt am;have aI:=κ dq;have bs:=κ dw;have bN:=κ am;have em:=κ (aW.keep bU.o);have au:=κ dg;have ef:=κ dh;have bM:=κ dt;have dT:=λ(x:qt W1)=>β13 (qq x.h aP.o.blk)
 have bS:=λ(x:qt W1)=>qq x.h bk.o
 have aN:=λx=>β0 (bS x);have bE:=λx=>β1 (bS x);clear bS
 have dW: ∀x:qt W1,(Instr.lookup 91 (.map (ϊ k.MS)) (θ #[ι H,ι o2]) ύ).run prog x.w'= .ok (γ ab) x.w':=λx=>by
  have:=ya (aP.o.stm.more x.h) (H,o2) ύ;rw[aI.o] at this;exact this
 obtain⟨cv,du⟩:=ν (t.any);have aJ:=κ du;obtain⟨n,cl⟩:=ν (yV t p.sq);have bo:=κ cl;have bL:=κ dm;have ei:=κ aj;have cN:=κ dr;have ed:=κ df;have cK:=κ (P4 dn dp);rw[cl] at bL;obtain⟨os,an,rfl,eU⟩:=id aW.s;obtain⟨ao,ke,rfl,eP⟩:=id aW.e;obtain⟨ag,af,rfl,eR⟩:=id aW.l;clear dn dp h bZ dq dw am aW dg dh dt du cl dm aj dr df bB ct eU eP eR
 go_enter func132,ntmps132
 go_upto_region 1 with fail
 (try rw[bz])
 (try rw[bu])
 clear bz bu;refine qD _ (ql.refl _) ξ ξ ?_
 repeat (go_big_quiet_step (fail))
 refine wpQuiet_nil ?_;intro _ eW;obtain⟨dK,rfl⟩:=eW;obtain⟨W2,ce⟩:=ν (dK.w');have ax:Hid (ql W1 W2):=κ (by rw[<-ce];exact dK.h);rw[ce];clear ce dT aN bE dW;have cu:=β2 (qq ax.o aL.o);have t1:=β1 (qq ax.o bs.o.blk);have t2:=β2 (qq ax.o bs.o.blk);rw[aJ.o] at t1
 go_upto_if 28 with (go_at_call 191;(go_call Wa p.sq cN.o _ as e fW ⟨rfl,ez⟩;obtain rfl:=ez))
 go_cut [7] from 29 (λv ah=>v= ι n/\ql W2 ah)
 case first=>
  cases cv with
  | false=>
   go_wp2;go_meet;exact⟨by rw[<-bo.o];unfold yV;rw[aJ.o];rfl,ql.refl _⟩
  | true=>
   have fp:=λ(x:qt W2)=>β2 (qq (ax.o.trans x.h) aL.o)
   have fo:=λ(x:qt W2)=>β2 (qq (ax.o.trans x.h) bs.o.blk)
   go_upto_region 4 with fail
   refine Qn W2 9 9 [7] ?_
   refine Qq7 ?_
   (refine Ql ?_;intro K I)
   go_call Wm t.great p.sq (ei.o aJ.o) cN.o _ as e w5 ⟨rfl,rfl⟩;refine⟨_,rfl,qk ρ,I _ _ ?_⟩;clear I K
   refine Qq1 ?_
   refine qA ?_;go_wp2;go_meet;exact⟨by rw[<-bo.o];unfold yV;rw[aJ.o];rfl,ρ⟩
 case rest=>
 obtain⟨rfl,az⟩:=hcut;obtain⟨bm,cb⟩:=ν ([w.heap.size,w4.heap.size]++(Fn++F));rw[cb] at aP;have av:=κ cb;have cT:=κ (aP.o.on (ax.o.trans az));have aQ:=κ (bs.o.on (ax.o.trans az));have eq:=κ (aP.o.at.stay (ax.o.trans az));clear az cu t1 t2 cb;have t1:=β1 aQ.o.blk;have t2:=β2 aQ.o.blk;have fF:=yw aQ.o.blk 2;rw[aJ.o] at t1;obtain⟨c,de⟩: ∃c:Bool,(!cv||decide (t.great<n))=c:=⟨_,rfl⟩;have bH:=κ de;clear de
 go_upto_region 5 with fail
 go_cut [49] from 50 (λv ah=>v= μ c/\ah=wc)
 case first=>
  cases cv with
  | false=>
   go_wp2;go_meet;exact⟨by rw[<-bH.o];rfl,rfl⟩
  | true=>
   go_wp2;go_meet;exact⟨by rw[<-bH.o];rfl,rfl⟩
 case rest=>
 obtain⟨rfl,eA⟩:=hcut;obtain rfl:=eA.symm
 go_upto_if 49 with fail
 obtain⟨fy,eK⟩:=ν (wc);subst eK;obtain⟨aU,dl⟩:=ν ((if c then n else t.great));have bK:=κ dl;clear dl
 go_cut [] from 50 (λah=>qI w0 ah k {s with strs:=qx s.strs (H,o2) {t with great:=aU}} bm/\qw bm wc ah)
 case first=>
  cases c with
  | false=>
   have bI:Hid ({s with strs:=qx s.strs (H,o2) {t with great:=aU}}=s):=κ (by rw[<-bK.o];show {s with strs:=qx s.strs (H,o2) t}=s;rw[ZL _ _ _ bN.o]);go_wp2;go_meet;exact⟨by rw[bI.o];exact cT.o.at,qw.refl _ _⟩
  | true=>
   have ar:=κ (cT.o.strSet (t':={t with great:=aU}) bN.o aI.o aQ.o (jt.set (S:=λb=>b=ab) (jt.refl _ _) (p:=⟨ab,2,ϋ⟩) rfl (ι n)) (qB (qp aQ.o.blk 2 _) (by rw[<-bK.o];rfl)) rfl);go_wp2;go_meet;exact ar.o
 case rest=>
 obtain⟨ca,be⟩:=hcut;have cX:=κ (eq.o.trans be);obtain⟨fx,fR,fV,cy⟩:=ca;obtain⟨fd,fr,fM,bv,aZ⟩:=cy.strAt (o:=(H,o2)) (xD _ _ _);obtain rfl:ab=fd:=by rw[aI.o] at bv;injection bv
 have ev:=β1 aZ.blk;have eB:=yw aZ.blk 1;have Y:=κ (cy.strSet (t':={t with great:=aU,any:=ό}) (xD _ _ _) bv aZ (jt.set (S:=λb=>b=ab) (jt.refl _ _) (p:=⟨ab,1,ϋ⟩) rfl (μ ό)) (qB (qp aZ.blk 1 _) rfl) rfl);simp only[Qy] at Y;obtain⟨t2,cq⟩: ∃t2:zu,{t with great:=aU,any:=ό}=t2:=⟨_,rfl⟩;have cS:=κ cq;clear be cy bv aZ
 go_upto_region 8 with fail
 obtain⟨W7,cf⟩:=ν (wc.setCell ⟨ab,1,ϋ⟩ (μ ό));rw[cf] at Y
 (try rw[cf])
 clear cf ev eB;have dZ:Hid (qI w0 W7 k {s with strs:=qx s.strs (H,o2) t2} bm):=κ (by rw[<-cq];exact Y.o.1);have ak:=κ (cX.o.trans Y.o.2);clear cq Y cX;obtain⟨fw,fj,fm,aC⟩:=dZ.o;obtain⟨N,_,M,rfl,rfl,_⟩:=(aC.all .pks).1.shape;have bR:=κ aC;have bY:=β14 aC.blk;clear aC
 go_upto_region 9 with fail
 clear bY;have cL:=κ (em.o.stay (F:=bm) ⟨λJ g aj=>by rw[<-av.o];exact ϓ _ (ϰ _ (au.o.1 J g aj)),λJ g aj=>by rw[<-av.o];exact ϓ _ (ϰ _ (au.o.2.1 J g aj)),λJ g aj=>by rw[<-av.o];exact ϓ _ (ϰ _ (au.o.2.2 J g aj))⟩ ak.o);have eg:Hid (∀b∈Fn,b<w.heap.size):=κ eh.o
 obtain⟨ae,dJ,da,_⟩:=(bR.o.sub (F':=[w.heap.size,w4.heap.size]++F) (λb d=>by
  rw[<-av.o];rcases ϯ.1 d with e | e
  ·exact ϰ _ e
  ·exact ϓ _ (ϓ _ e))).data (λb=>b∈Fn) (λb d=>by
   obtain⟨fh,cu,fi⟩:=bR.o.law b (by rw[<-av.o];exact ϓ _ (ϰ _ d));refine⟨fh,cu,fi,λeL=> ?_⟩;rcases ϯ.1 eL with e | e
   ·have fX:=eg.o b d;have fY:=ep.o.size;simp at e;omega
   ·exact ef.o b d e)
 have U:=κ dJ;have bq:=κ da;clear dJ da bR;have dN:=κ (ak.o.blk (by rw[<-av.o];simp) bk.o);have dP:=κ (ak.o.blk (by rw[<-av.o];simp) aL.o);obtain⟨_,dv⟩:=U.o.all .pks;have aO:=κ dv;clear dv;have aK: ¬(δ N s.pks.length M).ownBlock=ϊ k.R:=λe=>by have:=aO.o _ e;rw[(U.o.all .room).1] at this;cases this
 have dz: ¬(δ N s.pks.length M).ownBlock=ϊ w.heap.size:=λe=>by have:=aO.o _ e;rw[(U.o.law w.heap.size η).1] at this;cases this
 have dA: ¬(δ N s.pks.length M).ownBlock=ϊ w4.heap.size:=λe=>by have:=aO.o _ e;rw[(U.o.law w4.heap.size η).1] at this;cases this
 have dU:=λ(x:qz (λb=>(δ N s.pks.length M).ownBlock=ϊ b) W7)=>β14 (x.h.blk U.o.blk aK)
 have bT:=λ(x:qz (λb=>(δ N s.pks.length M).ownBlock=ϊ b) W7)=>x.h.blk dN.o dz
 have aN:=λx=>β0 (bT x);have bE:=λx=>β1 (bT x);clear bT
 have cG: ∀x:qz (λb=>(δ N s.pks.length M).ownBlock=ϊ b) W7,x.w'.rangeAt w4.heap.size 0 (Γh p os an ao ke ag af):=λx=>xy (x.h.blk dP.o dA)
 obtain⟨fa,hi,eX,eY,eZ⟩:=info_parts (P:=prog) (e:=65) (z:= θ #[ι 0,ι 0,ι 0,ύ,υ 0,φ 0,ω 0,ω 0,(),ύ,φ 0,(),()]) (size:=13) (bytes:=120) ξ;refine QN (λb=>(δ N s.pks.length M).ownBlock=ϊ b) W7 13 14 [9,10,11,13] ?_
 refine Qs7 ?_
 refine jh rfl rfl (qi σ) 63 (.tmp 5) rfl w4.heap.size 0 rfl (Γh p os an ao ke ag af) _ (λw' aa=>by obtain⟨x,rfl⟩:=aa;exact cG x) underlying63 rfl ξ ?_;intro K I;go_simp;refine I _ ?_;clear I K dU aN bE cG
 refine Qs1 ?_
 (refine Ql ?_;intro K I)
 refine⟨qi (((jt.refl _ W7).drewN 1).alc _),I _ _ ?_⟩;clear I K;have cr: ∀g,(δ N s.pks.length M).ownBlock=ϊ g->ae g= .pks:=aO.o;have dF:=(((U.o.all .pks).1.on (ql.drewN W7 1)).on (ql.alloc _ (.cells (Γi H o2 n p os an ao ke ag af) 65))).other (D':=λb=>(ae b≠ .data/\ae b≠ .pks)/\b<W7.heap.size) (λb d=>ϑ d.1);have bC:=(cL.o.keep (ql.drewN W7 1)).keep (ql.alloc _ (.cells (Γi H o2 n p os an ao ke ag af) 65));have dE:jw RAc (λb=>((ae b≠ .data/\ae b≠ .pks)/\b<W7.heap.size)∨(δ N s.pks.length M).ownBlock=ϊ b) ((W7.drewN 1).alloc (.cells (Γi H o2 n p os an ao ke ag af) 65)) (Γi H o2 n p os an ao ke ag af) ⟨(H,o2),n,p⟩:=λw' a=>by
  have cn: ∀g,g∈Fn-> ¬(((ae g≠ .data/\ae g≠ .pks)/\g<W7.heap.size)∨(δ N s.pks.length M).ownBlock=ϊ g):=λg aj aa=>by
   have e:=bq.o g aj;rcases aa with aa | aa
   ·exact aa.1.1 e
   ·rw[cr g aa] at e;cases e
  exact⟨_,_,_,rfl,bC.s.off2 (λJ b d=>cn b (au.o.1 J b d)) a,bC.e.off2 (λJ b d=>cn b (au.o.2.1 J b d)) a,bC.l.off2 (λJ b d=>cn b (au.o.2.2 J b d)) a⟩
 refine jR rfl rfl ?_;intro K I
 refine zK (.tmp 66) (.tmp 71) 92 rfl 0 65 fa (θ #[ι 0,ι 0,ι 0,ύ,υ 0,φ 0,ω 0,ω 0,(),ύ,φ 0,(),()]) 13 120 underlying92 hi eX eY eZ rfl ζ _ s.pks rfl dF W7.heap.size (Γi H o2 n p os an ao ke ag af) ⟨(H,o2),n,p⟩ rfl rfl (kX rfl) X9 dE (λb d=>by
  have:=d.2;have:=(((ql.drewN W7 1)).al (.cells (Γi H o2 n p os an ao ke ag af) 65)).size
  omega) ζ τ (Δ _) ?_
 intro fK w6 cm dk dd;have aD:Hid (jt (λb=>(δ N s.pks.length M).ownBlock=ϊ b) W7 w6):=κ ((((jt.refl _ W7).drewN 1).alc _).trans (jt.of_grown dk));obtain⟨bc,bb,aT,rfl,eS,eT⟩:=cm.shape;have bl:=κ (aD.o.blk U.o.blk aK);have eJ:=U.o.lt;have cz:(ae k.R≠ .data/\ae k.R≠ .pks)/\k.R<W7.heap.size:=⟨by rw[(U.o.all .room).1];exact⟨η,η⟩,eJ⟩;have bn:=κ (U.o.pksPut (y:=⟨(H,o2),n,p⟩) ((aD.o.mono (S':=λb=>(δ N s.pks.length M).ownBlock=ϊ b∨b=k.R) (λb d=>ϑ d)).set (p:=⟨k.R,14,ϋ⟩) (ϕ rfl) (δ bc bb aT)) (((ql.drewN W7 1)).al (.cells (Γi H o2 n p os an ao ke ag af) 65)).size (cm.step (jt.set (S:=λb=>(ae b≠ .data/\ae b≠ .pks)/\b<W7.heap.size) (jt.refl _ _) (p:=⟨k.R,14,ϋ⟩) cz (δ bc bb aT))) dd (qB (qp bl.o 14 _) rfl));have bY:w6.cell? ⟨k.R,14,ϋ⟩=ϊ (δ N s.pks.length M):=qm bl.o 14 rfl;have eC:w6.frozen? ⟨k.R,14,ϋ⟩=ύ:=yw bl.o 14;clear cm dk dd dF dE bC eS eT;refine⟨qi aD.o,I _ _ ?_⟩;clear I K;go_simp
 (refine Ql ?_;intro K I)
 refine⟨qi aD.o,I _ _ ?_⟩;clear I K
 iterate 1 (refine qE rfl rfl (qi aD.o) ?_;intro K I;go_big_quiet_op;go_big_quiet_on)
 (refine Qe ?_;intro K I)
 refine I _ _ ?_;clear I K;refine qA ?_
 have cI:Hid (SlI .u8 (w6.setCell ⟨k.R,14,ϋ⟩ (δ bc bb aT)) (δ ag p.pl.length af) p.pl):=κ (cL.o.l.off2 (D:=λb=>(δ N s.pks.length M).ownBlock=ϊ b∨b=k.R) (λJ b d aa=>by
  have e:=bq.o b (au.o.2.2 J b d);rcases aa with aa | aa
  ·rw[cr b aa] at e;cases e
  ·rw[aa,(U.o.all .room).1] at e;cases e) ((aD.o.mono (S':=λb=>(δ N s.pks.length M).ownBlock=ϊ b∨b=k.R) (λb d=>ϑ d)).set (p:=⟨k.R,14,ϋ⟩) (ϕ rfl) (δ bc bb aT)))
 have cV:Hid (p.pl≠[]-> ∀b,(δ ag p.pl.length af).ownBlock=ϊ b->b≠k.b/\b≠k.R):=κ (λJ b d=>by
  have e:=bq.o b (au.o.2.2 J b d);refine⟨λx=> ?_,λx=> ?_⟩
  ·rw[x,(U.o.all .book).2.1] at e;cases e
  ·rw[x,(U.o.all .room).1] at e;cases e)
 obtain⟨cY,cg⟩:=ν (w6.setCell ⟨k.R,14,ϋ⟩ (δ bc bb aT));rw[cg] at cI bn
 have bV:Hid (qw ([w.heap.size,w4.heap.size]++F) W1 cY):=κ ((ak.o.sub (λb d=>by
  rw[<-av.o];rcases ϯ.1 d with e | e
  ·exact ϰ _ e
  ·exact ϓ _ (ϓ _ e))).trans bn.o.2)
 have cB:=κ bn.o.1;obtain⟨fQ,fU,bD⟩:=cB.o.blk;have ey:=β20 bD;have eD:=yw bD 20;obtain⟨fz,fA⟩:=eO;clear bD bY eC aK dz dA cr bq aO U aD bl bn cz;have ar:=κ (cB.o.cell 20 (ι (s.cnt.acc+1)) (s':={s with strs:=qx s.strs (H,o2) t2,pks:=s.pks++[⟨(H,o2),n,p⟩],cnt:={s.cnt with acc:=s.cnt.acc+1}}) (λ_ _=>rfl) ⟨rfl,rfl,rfl,rfl,rfl,rfl,rfl,rfl,rfl⟩);have cJ:=κ (cI.o.off2 (λJ b d=>(cV.o J b d).2) (jt.set (S:=λb=>b=k.R) (jt.refl _ _) (p:=⟨k.R,20,ϋ⟩) rfl (ι (s.cnt.acc+1))))
 go_upto_region 10 with fail
 (try rw[cg])
 clear cg
 go_upto_region 11 with fail
 obtain⟨aG,ch⟩:=ν (cY.setCell ⟨k.R,20,ϋ⟩ (ι (s.cnt.acc+1)));rw[ch] at ar cJ
 (try rw[ch])
 clear ch ey eD;obtain⟨id,cj⟩: ∃id:Int,(s.pks.length:Int)=id:=⟨_,rfl⟩;have cH:=κ cj
 (try rw[cj])
 clear cj;obtain⟨ap,cc⟩:=ν ([w.heap.size,w4.heap.size]++F);have aE:=κ cc;rw[cc] at ar bV;obtain⟨ad,aY⟩: ∃ad:RmS,{s with strs:=qx s.strs (H,o2) t2,pks:=s.pks++[⟨(H,o2),n,p⟩],cnt:={s.cnt with acc:=s.cnt.acc+1}}=ad:=⟨_,rfl⟩;have en:=κ aY;rw[aY] at ar;have ea:=κ ar.o.1;have bW:=κ (bV.o.trans ar.o.2);have cP:Hid (zc ad):=κ (by rw[<-aY];exact⟨bM.o.keys,bM.o.lane,bM.o.few⟩);have bO:Hid (ad.tab=s.tab/\ad.book=s.book/\ad.clock=s.clock/\qh ad.strs (H,o2)=ϊ t2):=κ (by rw[<-aY];exact⟨rfl,rfl,rfl,xD _ _ _⟩);clear aY cc ar bV;obtain⟨ft,fO,fS,dH⟩:=ea.o;have br:=κ dH;have dO:=κ (bW.o.blk (by rw[<-aE.o];simp) bk.o);have dQ:=κ (bW.o.blk (by rw[<-aE.o];simp) aL.o);have dS:=λ(x:qt aG)=>β11 (qq x.h br.o.blk)
 have aN:=λ(x:qt aG)=>β0 (qq x.h dO.o)
 obtain⟨L,cd⟩:=ν (prR (j8 H) ad.tab.u);have ej:=κ cd;have cR:=κ (λw m=>Hk (br.o.tab.more (w':=w) m) H cP.o.keys cP.o.few);rw[cd] at cR;clear cd dH;refine Qn aG 8 8 [6] ?_
 refine Qq6 ?_
 (refine Ql ?_;intro K I)
 go_call cR.o _ (ql.drewN aG 1) as e bi ⟨⟨v3,rfl,dG,dy⟩,az⟩;obtain⟨fI,fE,aq,rfl,fG,dI,ds⟩:=(br.o.on (ql.drewN aG 1)).ints az dG dy;have aR:Hid (ql aG bi):=κ ((ql.drewN aG 1).trans az);have cO:=κ ds;have dY:=κ dI.at;have es:=κ (bW.o.trans (br.o.at.stay aR.o));have ek:=κ (cJ.o.keep aR.o);clear az dG dy dI ds;refine⟨_,rfl,qk aR.o,I _ _ ?_⟩;clear I K
 iterate 1 (refine qE rfl rfl (qk aR.o) ?_;intro K I;go_big_quiet_op;go_big_quiet_on)
 refine qA ?_;clear dS aN;go_wp2
 go_loopw [93] (λaH wr=> ∃j:Nat,j<=L.length/\aH= ι j/\qI w0 wr k {ad with book:=Ji ad.book (L.take j) id} (aq++ap)/\qw (aq++ap) bi wr/\jt (λb=>b=k.b) bi wr) (λaH _=>L.length-(intOf aH).toNat)
 case atStart=>exact⟨0,τ,rfl,dY.o,qw.refl _ _,jt.refl _ _⟩
 case round=>
  obtain⟨j,eQ,rfl,aX,am,db⟩:=hrel;have ai:=κ aX;have aw:=κ am;have cC:=κ db;clear aX am db;by_cases hlt:j<L.length
  ·have ck:(j:Int)<(L.length:Int):=by omega
   obtain⟨ew,fb,rfl,eN⟩:=cO.o wr (λb d=>aw.o.2 b (by simp[d])) j hlt;have bP:Hid (L.take (j+1)=L.take j++[L[j]]):=κ (by rw[A9,ϖ hlt];rfl);generalize L[j]=x at *;obtain⟨fk,fn,aM⟩:=ai.o.blk;have ex:=β0 aM;clear aM
   go_wp2_with (go_at_call 193;(go_call Ns ai.o x id as e cx ⟨⟨fL,rfl⟩,aV,bd,bt⟩;have Y:=κ aV;have ak:=κ bd;have dM:=κ bt;clear aV bd bt))
   go_roundw
   case rel=>exact⟨j+1,τ,by go_num,by have:=Y.o;unfold Ji at this ⊢;rw[bP.o,Ξ];exact this,aw.o.trans ak.o,cC.o.trans dM.o⟩
   case measure=>simp[intOf];omega
  ·obtain rfl:j=L.length:=by omega
   have ck: ¬(L.length:Int)<(L.length:Int):=by omega
   rw[ϱ] at ai;have dR:=κ (β9 (aw.o.blk (b:=w4.heap.size) (by simp[<-aE.o]) (qq aR.o dQ.o)));have fg:=dR.o;have el:=κ (ek.o.off2 (λJ b d=>(cV.o J b d).1) cC.o);obtain⟨cZ,ci⟩:=ν (zJ p.pl);have cD:=κ (Jg _ p.pl wr el.o cK.o.1 cK.o.2);rw[ci] at cD;have ec:=κ ci;clear ci
   go_upto_if 109 with (go_at_call 134;(go_call cD.o as e cx ⟨rfl,dx⟩;have cU:=κ dx;clear dx))
   have Y:=κ (ai.o.on cU.o);have et:=κ (aw.o.trans (ai.o.stay cU.o));obtain⟨O,bx⟩: ∃O:RmS,{ad with book:=Ji ad.book L id}=O:=⟨_,rfl⟩;have eo:=κ bx;rw[bx] at Y;have bp:Hid (qh O.strs (H,o2)=ϊ t2/\O.clock=s.clock):=κ (by rw[<-bx];exact⟨bO.o.2.2.2,bO.o.2.2.1⟩);obtain⟨aS,dc⟩:=ν ((if cZ then ύ else t2.askedOf));have bG:=κ dc;obtain⟨ak,fj,fm,aC⟩:=Y.o;obtain⟨fe,fs,fN,bw,ba⟩:=aC.strAt bp.o.1;obtain rfl:ab=fe:=by rw[aI.o] at bw;injection bw
   have fc:=β7 ba.blk;have eE:=yw ba.blk 7;have eb:=κ (aC.strSet (t':={t2 with askedOf:=ύ}) bp.o.1 bw ba (jt.set (S:=λb=>b=ab) (jt.refl _ _) (p:=⟨ab,7,ϋ⟩) rfl (μ ύ)) (qB (qp ba.blk 7 _) rfl) rfl);clear bx dc aC bw ba fg
   go_cut [] from 110 (λah=>qI w0 ah k {O with strs:=qx O.strs (H,o2) {t2 with askedOf:=aS}} (aq++ap)/\qw (aq++ap) cx ah)
   case first=>
    cases cZ with
    | false=>
     have bI:Hid ({O with strs:=qx O.strs (H,o2) {t2 with askedOf:=aS}}=O):=κ (by rw[<-bG.o];show {O with strs:=qx O.strs (H,o2) t2}=O;rw[ZL _ _ _ bp.o.1]);go_wp2;go_meet;exact⟨by rw[bI.o];exact Y.o,qw.refl _ _⟩
    | true=>
     obtain rfl:ύ=aS:=bG.o;go_wp2;go_meet;exact eb.o
   case rest=>
   obtain⟨ca,be⟩:=hcut;have eu:=κ (et.o.trans be);obtain⟨fu,fP,fT,bj⟩:=ca;have bQ:=κ bj;obtain⟨ff,ay,aB,co,bA⟩:=bj.strAt (o:=(H,o2)) (xD _ _ _);obtain rfl:ab=ff:=by rw[aI.o] at co;injection co
   have aF:=κ bA;have dB:k.R≠ay:=λe=>by have:=bA.nb;rw[<-e,(bj.all .room).1] at this;cases this
   have dC: ¬aB.ownBlock=ϊ k.R:=λe=>by have:=(bA.nv _ e).1;rw[(bj.all .room).1] at this;cases this
   have aK: ¬(k.R=ay∨aB.ownBlock=ϊ k.R):=λe=>e.elim dB dC
   have dD: ¬(ab=ay∨aB.ownBlock=ϊ ab):=λe=>e.elim (λe=>aF.o.ne e) (λe=>(aF.o.nv _ e).2 rfl)
   have ee:Hid (O.clock=s.clock):=κ bp.o.2;have dV: ∀x:qz (λb=>b=ay∨aB.ownBlock=ϊ b) wc,x.w'.cell? ⟨k.R,9,ϋ⟩=ϊ (ι s.clock):=λx=>by rw[<-ee.o];exact qm (x.h.blk bQ.o.blk aK) 9 rfl
   have dX:=λ(x:qz (λb=>b=ay∨aB.ownBlock=ϊ b) wc)=>β0 (x.h.blk aF.o.blk dD)
   clear be bj co bA fc eE dB dC;obtain⟨ac,di⟩:=ν ((jP t2.buf n s.clock id).2);have cE:=κ di;clear di
   go_upto_region 20 with fail
   refine QN (λb=>b=ay∨aB.ownBlock=ϊ b) wc 11 11 [10] ?_
   refine Nx ?_
   (refine Ql ?_;intro K I)
   have cM:=κ (CG t2.buf aF.o.ok ay aB n s.clock id bL.o _ (aF.o.buf.on (ql.drewN wc 1)));rw[cE.o] at cM
   (with_reducible refine cM.o.mono ?_)
   rintro e cw ⟨rfl,fJ,st⟩;have dL:Hid (jt (λb=>b=ay∨aB.ownBlock=ϊ b) wc cw):=κ (((jt.refl _ wc).drewN 1).trans st.away);have bF:=κ ((bQ.o.on (ql.drewN wc 1)).strBuf (xD _ _ _) aI.o (aF.o.on (ql.drewN wc 1)) st (Eu aF.o.ok bL.o ed.o));simp only[Qy] at bF;have cW:=κ (eu.o.trans ((bQ.o.at.stay (ql.drewN wc 1)).trans bF.o.2));clear st;refine⟨_,rfl,qi dL.o,I _ _ ?_⟩;clear I K dV dX aK dD;refine qA ?_;obtain⟨aA,cp⟩: ∃aA:RmS,{O with strs:=qx O.strs (H,o2) {t2 with buf:=(jP t2.buf n s.clock id).1,askedOf:=aS}}=aA:=⟨_,rfl⟩
   have cF:Hid (∀bX,(if yY ac=0 then aA.book else xG aA.book L id (yY ac))=bX->s.accept (H,o2) p={aA with book:=bX}):=κ (by
    intro bX eM;have eV:Ye t p s.clock s.pks.length={t2 with buf:=(jP t2.buf n s.clock id).1,askedOf:=aS}:=by
     unfold Ye;rw[bo.o,<-bG.o,<-cS.o,<-ec.o,<-cH.o,<-bK.o,<-bH.o,<-aJ.o];cases t.any<;>simp
    have d:t2.buf=t.buf:=by rw[<-cS.o]
    have eI:prR (j8 H) s.tab.u=L:=by rw[<-ej.o,bO.o.1]
    rw[<-eM,<-cp,<-eo.o,<-en.o];unfold RmS.accept;rw[bN.o];simp only[Qy]
    rw[eV,bo.o,eI,cH.o,<-d,cE.o])
   have cQ:Hid (∀w',qw (aq++ap) bi w'->qw F w w'):=κ (λw' h=>(er.o.sub (F':=F) (λb d=>ϓ _ d)).trans (((es.o.sub (F':=F) (λb d=>by rw[<-aE.o];exact ϓ _ d))).trans (h.sub (λb d=>by rw[<-aE.o];simp[d]))));have cA:Hid (qI w0 cw k aA (aq++ap)):=κ (by rw[<-cp];exact bF.o.1);clear cp
   go_upto_block 2 with fail
   go_cut [12] from 124 to 129 (λv ah=>v= ι (yY ac)/\yY ac≠0/\ah=cw)
   case first=>
    by_cases e10:ac=10
    ·subst e10;go_wp2;go_meet;exact⟨rfl,ζ,rfl⟩
    ·by_cases e9:ac=9
     ·subst e9;go_wp2;go_meet;exact⟨rfl,ζ,rfl⟩
     ·by_cases e8:ac=8
      ·subst e8;go_wp2;go_meet;exact⟨rfl,ζ,rfl⟩
      ·have fB:(ac==10)=ύ:=by simp[e10]
       have fD:(ac==9)=ύ:=by simp[e9]
       have fC:(ac==8)=ύ:=by simp[e8]
       have bJ:Hid (yY ac=0):=κ (by unfold yY;rw[ώ e10,ώ e9,ώ e8]);clear e10 e9 e8;go_wp2
       (refine bodyPost_ret (v:= .tuple #[]) ?re2 rfl ?_;(case re2=>simp[results,results132,go_sem]))
       exact⟨rfl,by rw[cF.o _ rfl,ϐ bJ.o];exact(cA.o.sub (λb d=>ϓ _ d)).sub (λb d=>by rw[<-aE.o];exact ϓ _ d),cQ.o _ cW.o⟩
   case rest=>
   obtain⟨rfl,dj,rfl⟩:=hcut;have bJ:=κ dj;clear dj;generalize yY ac=fv at *;go_wp2
   go_loopw [132] (λaH wr=> ∃j:Nat,j<=L.length/\aH= ι j/\qI w0 wr k {aA with book:=xG aA.book (L.take j) id fv} (aq++ap)/\qw (aq++ap) bi wr) (λaH _=>L.length-(intOf aH).toNat)
   case atStart=>exact⟨0,τ,rfl,cA.o,cW.o⟩
   case round=>
    obtain⟨j,eQ,rfl,aX,am⟩:=hrel;have ai:=κ aX;have aw:=κ am;clear aX am;by_cases hlt:j<L.length
    ·have ck:(j:Int)<(L.length:Int):=by omega
     obtain⟨ew,fb,rfl,eN⟩:=cO.o wr (λb d=>aw.o.2 b (by simp[d])) j hlt;have bP:Hid (L.take (j+1)=L.take j++[L[j]]):=κ (by rw[A9,ϖ hlt];rfl);generalize L[j]=x at *;obtain⟨fk,fn,aM⟩:=ai.o.blk;have ex:=β0 aM;clear aM
     go_wp2_with (go_at_call 122;(go_call Xt ai.o x id fv as e cx ⟨rfl,aV,bd,bt⟩;have Y:=κ aV;have ak:=κ bd;clear aV bd bt))
     go_roundw
     case rel=>exact⟨j+1,τ,by go_num,by have:=Y.o;unfold xG at this ⊢;rw[bP.o,Ξ];exact this,aw.o.trans ak.o⟩
     case measure=>simp[intOf];omega
    ·obtain rfl:j=L.length:=by omega
     have ck: ¬(L.length:Int)<(L.length:Int):=by omega
     rw[ϱ] at ai;go_wp2
     (refine bodyPost_end (v:= .tuple #[]) ?re1 rfl ?_;(case re1=>simp[results,results132,go_sem]))
     exact⟨rfl,by rw[cF.o _ rfl,ώ bJ.o];exact(ai.o.sub (λb d=>ϓ _ d)).sub (λb d=>by rw[<-aE.o];exact ϓ _ d),cQ.o _ aw.o⟩
end
def SmS (s:RdS):Prop:=Byt s.1/\s.1.length<=200
def SmS.tk {s:RdS} (h:SmS s) (n:Int):SmS (tkS s n):=⟨h.1.drop _,Ϙ (uN s n) h.2⟩
def SmS.wr {s:RdS} (h:SmS s) (x:Int):SmS (wrS s x):=⟨by unfold wrS;split;exact h.1;exact xh,Ϙ (vH s x) h.2⟩
def SmS.ss: ∀(n:Nat) {s:RdS},SmS s->SmS (j9 n s).2
 | 0,_,h=>h
 | n+1,_,h=>(SmS.ss n h).tk 4
def Kh (N:Byt b) (O: ¬(200:Int)<b.length):U16 (jl b).1.sq/\Byt (jl b).1.pl/\(jl b).1.pl.length<=200:=by
 have H:SmS (b,0):=⟨N,by show b.length<=200;omega⟩;have J:SmS (s5H b):=((((H.tk 1).tk 1).tk 2).tk 4).tk 4;have M:SmS (yy (fH b) (s5H b)):=by
  unfold yy;split
  ·exact J.wr 2
  ·exact J
 have d:SmS (yj (fH b) (yy (fH b) (s5H b))).2:=by
  unfold yj;split
  ·exact(((SmS.ss _ M).tk 2).tk 2).tk _
  ·exact SmS.ss _ M
 unfold jl;rw[ώ O];unfold JJ;split
 ·refine⟨?_, ?_⟩
  ·have I:=JH (s:=s2H b) ((H.tk 1).tk 1).1 2 ζ;exact⟨I.1,by have:=I.2;show num (tkB (s2H b).1 ((2:Nat):Int))<=65535;omega⟩
  ·show Byt (vB _ _).1/\(vB _ _).1.length<=200;unfold vB;split
   ·exact⟨xh,η⟩
   ·split
    ·split
     ·unfold xL;split
      ·exact⟨xh,η⟩
      ·split
       ·exact⟨xh,η⟩
       ·exact⟨d.1.take _,by simp only[Ϡ];have:=d.2;omega⟩
     ·exact⟨xh,η⟩
    ·exact d
 ·exact⟨⟨Q1 0,by show (0:Int)<=65535;omega⟩,xh,Δ _⟩
def IR (b:List Int):Zd b=Ve b:=by
 unfold Zd Ve;rw[Bool.and_assoc]
def My (h:RmX T w0 w k vp vr s F) (ai:s.queue=b::q):
  Calls prog 128 #[γ k.RQ] w λe w'=> ∃d H,e= .returned (.tuple #[δ d b.length H,ό])/\SlI .u8 w' (δ d b.length H) b/\qI w0 w' k {s with queue:=q} F/\qw F w w':=by
 obtain⟨f,Q,aa,ad,U,Y,css,g,a⟩:=h.que;obtain⟨t1,t2,_⟩:=h.all .queue;rw[ai] at a
 match Q,a with
 | c::Q,a=>
  obtain⟨M,ab⟩:=a;have ac:=M;obtain⟨v,rfl,⟨d,H,rfl,_⟩,I⟩:=M.read;refine(MY w _ _ _ f d _ H Q aa ad U Y css g).mono ?_;rintro e w' ⟨rfl,⟨ae,g'⟩,O⟩;have N:jt (λb=>T b≠ .data) w w':=O.mono λb I=>by
   rcases I with rfl | rfl
   ·rw[t1];simp
   ·rw[t2];simp
  obtain⟨af,ag⟩:=h.ring (q:=q) O (λD ah=>⟨_,Q,aa,ae,U,Y,_,g',ab.mono λc y aj=>(aj.step N).other λb I=>(ah b I).elim ϑ (λx=>ϑ (by rw[h.fresh b x];simp))⟩);obtain⟨ak,J,s2,_⟩:=ac w' N;injection J with J
  subst J;exact⟨d,H,rfl,s2,af,ag⟩
structure Ia (s:RmS):Prop where
 subs:zc s
 pub:Zy s
 malf:0<=s.cnt.malf/\s.cnt.malf<=1000000000
 told:0<=s.cnt.told/\s.cnt.told<=1000000000
 strange:0<=s.cnt.strange/\s.cnt.strange<=1000000000
 acc:0<=s.cnt.acc/\s.cnt.acc<=1000000000
 pks:s.pks.length<=1000000
 clock:xz s.clock
 strs: ∀o t,qh s.strs o=ϊ t->(t.any=ό->xz t.great)/\ ∀sq,U16 sq->xz (yV t sq)
 orgs: ∀x o,qh s.tab.o x=ϊ o->(qh s.strs o).isSome=ό
 queue: ∀b∈s.queue,Byt b/\b.length<=1000000
 ids: ∀o t,qh s.strs o=ϊ t-> ∀h∈t.buf.holds,0<=h.2.2/\h.2.2<(s.pks.length:Int)
 pkok: ∀a∈s.pks,uf a.pk/\uj a.pk
 owes: ∀x id,qh s.book (x,id)=ϊ 0->(qh s.lanes x).isSome=ό
def GO (d:SlI .u8 w v b) (H:Byt b):Calls prog 16 #[v] w (yS (jl b) w):=by
 by_cases hl:(200:Int)<b.length
 ·exact Jc v b w d hl
 ·exact Qd v b w d H hl
def Im (h:qI w0 w k s F) (m:ql w w') {J H I:Value} {p:Pk} (N:PkS w' J H I p) (n: ∀b,(J.ownBlock=ϊ b∨H.ownBlock=ϊ b∨I.ownBlock=ϊ b)->w.heap.size<=b):
  ∃Fn,qI w0 w' k s (Fn++F)/\DT (· ∈Fn) J H I p/\ ∀g∈Fn,g∉F:=by
 obtain⟨T,vp,ad,x⟩:=h;have key: ∀{U:IntKind} {v:Value} {l:List Int},SlI U w' v l->v∈[J,H,I]->(∀b,v.ownBlock=ϊ b->w.heap.size<=b)->l≠[]-> ∀g,v.ownBlock=ϊ g->g∈([J,H,I].filterMap Value.ownBlock).filter (λb=>decide (w.heap.size<=b/\b<w'.heap.size)):=by
  intro U v l ac ab aa Y g M;rw[I1];exact⟨P6.2 ⟨v,ab,M⟩,Ϫ ⟨aa g M,ac.old Y M⟩⟩
 have O: ∀b∈([J,H,I].filterMap Value.ownBlock).filter (λb=>decide (w.heap.size<=b/\b<w'.heap.size)),w.heap.size<=b/\b<w'.heap.size:=λb d=>Ϛ (I1.1 d).2
 exact⟨_,⟨T,vp,ad,x.adds m O⟩,⟨key N.s η (λb d=>n b (ϑ d)),key N.e η (λb d=>n b (ϕ (ϑ d))),key N.l η (λb d=>n b (ϕ (ϕ d)))⟩,λg M hF=>by
  have ae:=(O g M).1;have af:=(x.law g hF).2.2
  omega⟩
def Mx (ca:qI w0 w k s F) (aR:Ia s) (ay:s.queue=b::q) (w1 w2:Int) (acc:Bool):
  Calls prog 79 #[γ k.R,θ #[ι w1,ι w2],acc] w λe w'=>e= .returned (.tuple #[])/\qI w0 w' k s.read F/\qw F w w':=by
 obtain⟨T,vp,cj,h⟩:=ca;obtain⟨W1,aO⟩:=ν (w.alloc (.cells #[ι w1,ι w2] 37));have bi:Hid (ql w W1):=κ (by rw[<-aO];exact ql.alloc _ _);have bh:=κ (h.on bi.o);have ao:=κ (h.at.stay bi.o);have H:=κ aR;obtain⟨bu,bv⟩:=aR.queue b (by rw[ay];exact ϛ);have ak:=κ (P4 bu bv);obtain⟨sq,az⟩: ∃sq:RmS,{s with queue:=q}=sq:=⟨_,rfl⟩;have U:=κ az;have bg:=κ (My bh.o ay);rw[az] at bg;have cm:=β10 bh.o.blk;have af:Hid (s.read=if Ve b then sq.tell b else sq.media b):=κ (by unfold RmS.read;rw[ay];simp only[az]);clear h aR ay bu bv az;obtain⟨c,aP⟩:=ν (Ve b);have bP:Hid (Zd b=c):=κ (by rw[IR,aP]);rw[aP] at af;have aK:Hid (zc sq/\Zy sq/\(0<=sq.cnt.malf/\sq.cnt.malf<=1000000000/\0<=sq.cnt.told/\sq.cnt.told<=1000000000)):=κ (by rw[<-U.o];exact⟨⟨H.o.subs.keys,H.o.subs.lane,H.o.subs.few⟩,H.o.pub,H.o.malf.1,H.o.malf.2,H.o.told.1,H.o.told.2⟩);clear aP;obtain⟨bq,aQ⟩:=ν ((jl b).2);obtain⟨p,aS⟩:=ν ((jl b).1);have aJ:=κ aQ;have bf:=κ aS;have aL:=κ (λw' v (sl:SlI .u8 w' v b)=>GO sl ak.o.1);unfold yS at aL;rw[aQ,aS] at aL;clear aQ aS
 go_enter func79,ntmps79
 go_upto_region 1 with fail
 (try rw[aO])
 clear aO
 go_upto_if 21 with (first | (go_at_call 128;(go_call bg.o as e bG ⟨cu,cv,rfl,bE,bt,t3⟩;have aM:=κ bE;have aj:=κ bt;have bn:=κ t3;clear bE bt t3)) | (go_at_call 129;(go_call V3 _ b bG aM.o as e w4 ⟨rfl,bZ⟩;rw[bP.o];obtain rfl:=bZ)))
 cases c with
 | true=>
  go_wp2_with (go_at_call 130;(go_call Mt aj.o aK.o.1 aK.o.2.1 b _ aM.o ak.o.1 ak.o.2 aK.o.2.2 as e w5 ⟨rfl,ar,t5⟩;have bN:=κ ar;have bX:=κ t5;clear ar t5))
  (refine bodyPost_ret (v:= .tuple #[]) ?re2 rfl ?_;(case re2=>simp[results,results79,go_sem]))
  exact⟨rfl,by rw[af.o];exact bN.o,ao.o.trans (bn.o.trans bX.o)⟩
 | false=>
  go_upto_if 31 with (go_at_call 16;(go_call aL.o _ _ aM.o as e w5 ⟨cC,cy,cz,rfl,ai,bz,bB⟩;obtain⟨os,aD,rfl,_⟩:=id ai.s;obtain⟨aE,ke,rfl,_⟩:=id ai.e;obtain⟨aF,aC,rfl,_⟩:=id ai.l;have bj:=κ bz;have bl:=κ ai;have bS:=κ bB;clear bz bB ai))
  obtain⟨W6,ad⟩:=ν (w5.alloc (.cells (Γh p os aD aE ke aF aC) 63));have bk:Hid (ql bG W6):=κ (by rw[<-ad];exact bj.o.al _);obtain⟨Fn,ar,cg,bY⟩:=Im aj.o bj.o bl.o bS.o;have bR:=κ (ar.on (by rw[<-ad];exact ql.alloc _ _:ql w5 W6));have bT:=κ cg;have bL:=κ bY;have bV:=κ (bl.o.keep (by rw[<-ad];exact ql.alloc _ _:ql w5 W6));have ba:Hid (W6.heap[w5.heap.size]? =ϊ (.cells (Γh p os aD aE ke aF aC) 63 (0,0))):=κ (by rw[<-ad];exact qj _ _);have bo:=κ (bn.o.trans (aj.o.stay bk.o))
  (try rw[ad])
  clear ad;by_cases he:bq=0
  ·subst he;have am:Hid (sq.media b=match qh sq.tab.o p.sc with | none=>{sq with cnt:={sq.cnt with strange:=sq.cnt.strange+1}} | some o=>sq.accept o p):=κ (by unfold RmS.media;rw[aJ.o,ϐ rfl,bf.o];rfl)
   go_upto_region 7 with fail
   obtain⟨T,vp,cj,bI⟩:=bR.o;have aq:=κ bI;have an:=κ (λw' (m:ql W6 w')=>Le (aq.o.tab.more m) p.sc);have bK:=λ(x:qt W6)=>β11 (qq x.h aq.o.blk)
   have bU:=λ(x:qt W6)=>β4 (qq x.h ba.o)
   clear bI;obtain⟨ab,ah⟩:=ν (qh sq.tab.o p.sc);obtain⟨N,av⟩:=ν ((ab.getD (0,0)).1);obtain⟨o2,aw⟩:=ν ((ab.getD (0,0)).2);obtain⟨bC,ax⟩:=ν (ab.isSome);rw[ah,av,aw,ax] at an
   go_cut [10,11] from 41 to 51 (λch ci bH=> ∃A,ch= γ A/\ci= μ bC/\bH.heap[A]? =ϊ (.cells #[ι N,ι o2] 58 (0,0))/\ql W6 bH)
   case first=>
    refine zB W6 14 (.op 0 ύ (.op 1 ύ (.op 2 ύ (.op 3 ύ (.op 4 ύ (.op 5 ύ (.op 6 ύ (.br [7,11] λk=>if k=7 then .op 8 ύ (.op 9 ύ (.op 10 ύ (.op 11 ό (.op 12 ό (.op 13 ύ (.done)))))) else .op 7 ό (.op 8 ύ (.op 9 ύ (.op 10 ύ (.op 12 ό (.op 13 ύ (.done)))))))))))))) ξ ξ ?_
    repeat (first | (refine jg rfl rfl (qk ρ) ?_) | (refine qH rfl rfl (qk ρ) ?_;intro K d;go_big_quiet_op;go_big_quiet_on))
    refine wP ζ ?_ ?_
    ·(refine qO rfl rfl ?_;intro K d;unfold jn;go_simp)
     refine(an.o _ (ql.drewN W6 1)).mono ?_;rintro e w8 ⟨rfl,bA⟩;have M:Hid (ql W6 w8):=κ ((ql.drewN W6 1).trans bA);clear bA;refine⟨_,rfl,qk M.o,d _ _ ?_⟩;clear d K
     repeat (first | (refine jg rfl rfl (qk M.o) ?_) | (refine qH rfl rfl (qk M.o) ?_;intro K d;go_big_quiet_op;go_big_quiet_on))
     (refine qO rfl rfl ?_;intro K d;unfold jn;go_simp)
     refine⟨qk (M.o.al _),d _ _ ?_⟩;clear d K;obtain⟨w9,aB⟩:=ν (w8.alloc (.cells #[ι 0,ι 0] 58));obtain⟨A,Y⟩:=ν (w8.heap.size);have J:Hid (w9.heap[A]? =ϊ (.cells #[ι 0,ι 0] 58 (0,0))):=κ (by rw[<-aB,<-Y];exact qj w8 _);have aa:Hid (ql W6 w9):=κ (by rw[<-aB];exact M.o.al _);have ae:Hid (W6.heap.size<=A):=κ (by rw[<-Y];exact M.o.size)
     (try rw[aB])
     (try rw[Y])
     clear aB Y;have z0:=β0 J.o;have aZ:=β1 J.o;have aX:=yw J.o 0;have aY:=yw J.o 1
     repeat (first | (refine jg rfl rfl (qk aa.o) ?_) | (refine qH rfl rfl (qk aa.o) ?_;intro K d;go_big_quiet_op;go_big_quiet_on))
     (refine qO rfl rfl ?_;intro K d;unfold jn;go_simp)
     have I:Hid (ql W6 ((w9.setCell ⟨A,0,ϋ⟩ (ι N)).setCell ⟨A,1,ϋ⟩ (ι o2))):=κ ((aa.o.st ae.o _).st ae.o _);have ac:=κ (qB (qp (qp J.o 0 (ι N)) 1 (ι o2)) (cs':= #[ι N,ι o2]) rfl);refine⟨qk I.o,d _ _ ?_⟩;clear d K z0 aZ aX aY
     repeat (first | (refine jg rfl rfl (qk I.o) ?_) | (refine qH rfl rfl (qk I.o) ?_;intro K d;go_big_quiet_op;go_big_quiet_on))
     refine zg ?_;go_wp2;go_meet;exact⟨A,rfl,rfl,ac.o,I.o⟩
    ·(refine qO rfl rfl ?_;intro K d;unfold jn;go_simp)
     refine⟨qk ((ql.drewN W6 1).al _),d _ _ ?_⟩;clear d K;obtain⟨w8,aA⟩:=ν ((W6.drewN 1).alloc (.cells #[ι 0,ι 0] 58));obtain⟨A,Y⟩:=ν (W6.heap.size);have bJ:Hid (w8.heap[A]? =ϊ (.cells #[ι 0,ι 0] 58 (0,0))):=κ (by rw[<-aA,<-Y];exact qj (W6.drewN 1) _);have M:Hid (ql W6 w8):=κ (by rw[<-aA];exact(ql.drewN W6 1).al _);have ae:Hid (W6.heap.size<=A):=κ (by rw[<-Y];exact(ql.drewN W6 1).size)
     (try rw[aA])
     (try rw[Y])
     clear aA Y
     repeat (first | (refine jg rfl rfl (qk M.o) ?_) | (refine qH rfl rfl (qk M.o) ?_;intro K d;go_big_quiet_op;go_big_quiet_on))
     (refine qO rfl rfl ?_;intro K d;unfold jn;go_simp)
     refine(an.o _ M.o).mono ?_;rintro e w9 ⟨rfl,aV⟩;have aa:=κ (M.o.trans aV);have J:=κ (qq aV bJ.o);clear aV;refine⟨_,rfl,qk aa.o,d _ _ ?_⟩;clear d K;have z0:=β0 J.o;have aZ:=β1 J.o;have aX:=yw J.o 0;have aY:=yw J.o 1
     repeat (first | (refine jg rfl rfl (qk aa.o) ?_) | (refine qH rfl rfl (qk aa.o) ?_;intro K d;go_big_quiet_op;go_big_quiet_on))
     (refine qO rfl rfl ?_;intro K d;unfold jn;go_simp)
     have I:Hid (ql W6 ((w9.setCell ⟨A,0,ϋ⟩ (ι N)).setCell ⟨A,1,ϋ⟩ (ι o2))):=κ ((aa.o.st ae.o _).st ae.o _);have ac:=κ (qB (qp (qp J.o 0 (ι N)) 1 (ι o2)) (cs':= #[ι N,ι o2]) rfl);refine⟨qk I.o,d _ _ ?_⟩;clear d K z0 aZ aX aY
     repeat (first | (refine jg rfl rfl (qk I.o) ?_) | (refine qH rfl rfl (qk I.o) ?_;intro K d;go_big_quiet_op;go_big_quiet_on))
     refine zg ?_;go_wp2;go_meet;exact⟨A,rfl,rfl,ac.o,I.o⟩
   case rest=>
   obtain⟨A,rfl,rfl,bp,bx⟩:=hcut;have ac:=κ bp;have I:=κ bx;clear bp bx bK bU an;have ap:=κ (aq.o.on I.o);have bm:=κ (bo.o.trans ((aq.o.sub (F':=F) (λb ag=>ϓ _ ag)).at.stay I.o));cases bC with
   | false=>
    have cd:ab=ϋ:=by
     cases ab with
     | none=>rfl
     | some o=>cases ax
    have aI:Hid (sq.media b={sq with cnt:={sq.cnt with strange:=sq.cnt.strange+1}}):=κ (by rw[am.o,ah,cd]);have cf:0<=sq.cnt.strange/\sq.cnt.strange<=1000000000:=by rw[<-U.o];exact H.o.strange
    obtain⟨cw,cx⟩:=cf;have co:=β18 ap.o.blk;have cq:=yw ap.o.blk 18;have bb:=κ (ap.o.at.cell 18 (ι (sq.cnt.strange+1)) (s':={sq with cnt:={sq.cnt with strange:=sq.cnt.strange+1}}) (λ_ _=>rfl) ⟨rfl,rfl,rfl,rfl,rfl,rfl,rfl,rfl,rfl⟩);go_wp2
    (refine bodyPost_ret (v:= .tuple #[]) ?re3 rfl ?_;(case re3=>simp[results,results79,go_sem]))
    exact⟨rfl,by rw[af.o,ώ ζ,aI.o];exact bb.o.1.sub (λb ag=>ϓ _ ag),ao.o.trans (bm.o.trans (bb.o.2.sub (λb ag=>ϓ _ ag)))⟩
   | true=>
    obtain⟨o,au⟩: ∃o,ab=ϊ o:=by
     cases ab with
     | none=>cases ax
     | some o=>exact⟨o,rfl⟩
    have aN:o=(N,o2):=by rw[au] at av aw;rw[<-av,<-aw];rfl
    have aI:Hid (sq.media b=sq.accept (N,o2) p):=κ (by rw[am.o,ah,au,aN]);have bw:(qh sq.strs (N,o2)).isSome=ό:=by
     have O:=ah;rw[au,aN] at O;rw[<-U.o] at O ⊢;exact H.o.orgs _ _ O
    obtain⟨t,aT⟩:=ϥ.1 bw
    obtain⟨aG,aW,bD⟩:=Kh ak.o.1 (by
     intro cb;have O:=aJ.o;unfold jl at O;rw[ϐ cb] at O
     cases O)
    rw[bf.o] at aG aW bD;have aU:(t.any=ό->xz t.great)/\ ∀sq,U16 sq->xz (yV t sq):=by
     have O:=aT;rw[<-U.o] at O;exact H.o.strs _ _ O
    have be:=κ (λ(ce:zc sq) (hck:xz sq.clock) (hlen:sq.pks.length<=1000000) (hcnt:0<=sq.cnt.acc/\sq.cnt.acc<=1000000000)=>FI ap.o.at ce N o2 aT p _ _ _ (bV.o.keep I.o) bT.o bL.o aG (aU.2 _ aG) aU.1 hck hlen hcnt aW τ);have bO:=κ (be.o (by rw[<-U.o];exact⟨H.o.subs.keys,H.o.subs.lane,H.o.subs.few⟩) (by rw[<-U.o];exact H.o.clock) (by rw[<-U.o];exact H.o.pks) (by rw[<-U.o];exact H.o.acc));have a0:=β0 ac.o;have ck:=β1 ac.o;have bQ:Hid (wc.rangeAt w5.heap.size 0 (Γh p os aD aE ke aF aC)):=κ (xy (qq I.o ba.o));clear be aU aG aW bD bw aT au aN ah av aw ax
    go_wp2_with (first | (refine wpList_load_mid rfl 63 (.tmp 8) rfl w5.heap.size 0 rfl (Γh p os aD aE ke aF aC) _ bQ.o underlying63 rfl ξ ?_) | (go_at_call 132;(go_call bO.o as e cD ⟨rfl,bs,bF⟩;have bM:=κ bs;have bW:=κ bF;clear bs bF)))
    (refine bodyPost_end (v:= .tuple #[]) ?re1 rfl ?_;(case re1=>simp[results,results79,go_sem]))
    exact⟨rfl,by rw[af.o,ώ ζ,aI.o];exact bM.o,ao.o.trans (bm.o.trans bW.o)⟩
  ·have cl:(bq != 0)=ό:=by simp[he]
   have am:Hid (sq.media b={sq with cnt:={sq.cnt with malf:=sq.cnt.malf+1}}):=κ (by unfold RmS.media;rw[aJ.o,ώ he]);clear he;have cc:0<=sq.cnt.malf/\sq.cnt.malf<=1000000000:=by rw[<-U.o];exact H.o.malf
   obtain⟨cr,ct⟩:=cc;have bc:=κ (aj.o.on bk.o);obtain⟨cA,cB,aH⟩:=bc.o.blk;have cn:=β17 aH;have cp:=yw aH 17;clear aH;have bd:=κ (bc.o.cell 17 (ι (sq.cnt.malf+1)) (s':={sq with cnt:={sq.cnt with malf:=sq.cnt.malf+1}}) (λ_ _=>rfl) ⟨rfl,rfl,rfl,rfl,rfl,rfl,rfl,rfl,rfl⟩);go_wp2
   (refine bodyPost_ret (v:= .tuple #[]) ?re4 rfl ?_;(case re4=>simp[results,results79,go_sem]))
   exact⟨rfl,by rw[af.o,ώ ζ,am.o];exact bd.o.1,ao.o.trans (bo.o.trans bd.o.2)⟩
def acC (a:AcS) (vs ve vl:Value):List Value:=[.int .i64 a.o.1,.int .i64 a.o.2,.int .i64 a.num,.bool a.pk.mr,.int .u8 a.pk.ty,.int .u16 a.pk.sq,.int .u32 a.pk.st,.int .u32 a.pk.sc,vs,.bool a.pk.has,.int .u16 a.pk.pr,ve,vl]
def RmP (cs:List Value) (a:AcS) (w0 w:World) (k:RmK) (s:RmS) (F:List Nat):Prop:= ∃T vp vr,RmX T w0 w k vp vr s F/\jw RAc (λb=>T b≠ .data/\T b≠ .pks) w cs a
section
variable {T:Nat->Tg} {w0 w w':World} {k:RmK} {vp vr:Value} {s:RmS} {F:List Nat} {cs:List Value} {a:AcS}
def RmP.at (h:RmP cs a w0 w k s F):qI w0 w k s F:=by
 obtain⟨T,vp,d,x,_⟩:=h;exact⟨T,vp,d,x⟩
def RmP.on (h:RmP cs a w0 w k s F) (m:ql w w'):RmP cs a w0 w' k s F:=by
 obtain⟨T,vp,H,x,d⟩:=h;exact⟨T,vp,H,x.on m,d.step (jt.of_more m)⟩
def RmP.adds {Fn:List Nat} (h:RmP cs a w0 w k s F) (m:ql w w') (H: ∀b∈Fn,w.heap.size<=b/\b<w'.heap.size):RmP cs a w0 w' k s (Fn++F):=by
 obtain⟨T,vp,I,x,d⟩:=h;exact⟨T,vp,I,x.adds m H,d.step (jt.of_more m)⟩
def RmP.pk {I d H:Value} (h:RmP (acC a I d H) a w0 w k s F):PkS w I d H a.pk:=by
 obtain⟨T,vp,O,x,J⟩:=h;obtain⟨M,N,v3,e,pk⟩:=J.read;unfold acC at e;simp only[N0,and_true,X6] at e;obtain⟨rfl,rfl,rfl⟩:=e;exact pk
def RmX.growP (h:RmX T w0 w k vp vr s F) {t:Tg} (H:t≠ .data) (I:t≠ .pks) (M:jt (λb=>T b=t) w w') (J:jw RAc (λb=>T b≠ .data/\T b≠ .pks) w cs a):jw RAc (λb=>jZ T t w w' b≠ .data/\jZ T t w w' b≠ .pks) w' cs a:=
 (J.step (M.mono λb d=>by rw[d];exact⟨H,I⟩)).other λb d=>ϑ ⟨λe=>d.1 ((jF h.fresh η (C4 H) b).2 e),λe=>d.2 ((jF h.fresh η (C4 I) b).2 e)⟩
def RmX.lanePutX (h:RmX T w0 w k vp vr s F) {l':LnS} {p:Nat} (U:qh s.lanes x=ϊ l) (J:qh k.LA x=ϊ p) (b:zw (xf (λb=>T b= .lane x) w w') w' p l') (a:jt (λb=>T b= .lane x) w w'):
  RmX (jZ T (.lane x) w w') w0 w' k vp vr {s with lanes:=qx s.lanes x l'} F/\qw F w w':=by
 have M:=h.fresh;exact h.own (t:= .lane x) (k':=k) (vp':=vp) (vr':=vr) (s':={s with lanes:=qx s.lanes x l'}) ⟨η,η⟩ a
  ⟨λab aa H d=>by
   rw[J] at H;rw[xD] at d;injection H with H
   injection d with d
   subst H d;rw[wW M η]
   exact b,by rw[J,xD];rfl⟩
  (λu N Y y=>by
   cases u<;>first | exact y | skip
   rename_i O;have I:O≠x:=λe=>N (by rw[e])
   exact⟨λp l H d=>y.1 p l H (by rw[vF _ _ I] at d;exact d),by rw[vF _ _ I];exact y.2⟩)
def RmX.bookX (h:RmX T w0 w k vp vr s F) {m:Bk} (b:jy w' k.B k.b m) (a:jt (λx=>x=k.b) w w'):RmX (jZ T .book w w') w0 w' k vp vr {s with book:=m} F/\qw F w w':=by
 obtain⟨I,d,_⟩:=h.all .book;have H:=h.fresh;exact h.own (t:= .book) (k':=k) (vp':=vp) (vr':=vr) (s':={s with book:=m}) ⟨η,η⟩ (a.mono λb J=>by rw[J];exact d) ⟨(jd H η _).2 (ϑ I),(jd H η _).2 (ϑ d),b⟩ (λu M N x=>by cases u<;>first | exact x | exact ϩ rfl M)
def CD (h:RmP cs a w0 w k s F) (sub id f:Int):
  Calls prog 122 #[θ #[γ k.B],ι sub,ι id,ι f] w λe w'=>e= .returned (.tuple #[])/\RmP cs a w0 w' k {s with book:=jp s.book sub id f} F/\qw F w w':=by
 obtain⟨T,vp,O,x,H⟩:=h;have M:=(x.all .book).2.1;refine(gI x.bok sub id f).mono ?_;rintro e w' ⟨rfl,b,d⟩;obtain⟨I,J⟩:=x.bookX b d;exact⟨rfl,⟨_,_,_,I,x.growP η η (d.mono λb N=>by rw[N];exact M) H⟩,J⟩
def Mz (h:RmP cs a w0 w k s F) (x:ItS) (os M N:Option Addr) (J ke I:Nat) (ag:PkS w (δ os x.pk.ss.length J) (δ M x.pk.ex.length ke) (δ N x.pk.pl.length I) x.pk) (af:uf x.pk) (ah:uj x.pk)
  {sub:Int} {pl:Nat} (O:qh s.lanes sub=ϊ l) (Y:qh k.LA sub=ϊ pl):
  Calls prog 136 #[γ pl,(Γj x os J M ke N I)] w λe w'=>e= .returned (.tuple #[ι (xp l x).2.1,μ (xp l x).2.2.1,ι (xp l x).2.2.2])/\
   RmP cs a w0 w' k {s with lanes:=qx s.lanes sub (xp l x).1} F/\qw F w w'/\jt (λb=>b≠k.R/\b≠k.ML/\b∉F) w w':=by
 obtain⟨T,vp,ak,y,aa⟩:=h;have ab:=(y.all .room).1;have ac:=(y.all .lns).1;have ad:=y.law;obtain⟨p2,U,ae⟩:=y.laneAt O;obtain rfl:p2=pl:=by rw[Y] at U;injection U with e;exact e.symm
 refine(Ij ae x os M N J ke I ag af ah).mono ?_;rintro e w' ⟨rfl,b,H⟩;obtain⟨ai,aj⟩:=y.lanePutX O Y b H;exact⟨rfl,⟨_,_,_,ai,y.growP η η H aa⟩,aj,H.mono λb d=>⟨λe=>by rw[e,ab] at d;(cases d),λe=>by rw[e,ac] at d;(cases d),λe=>by rw[(ad b e).1] at d;(cases d)⟩⟩
def RmX.pkRow (h:RmX T w0 w k vp vr s F) {i:Nat} (hi:i<s.pks.length): ∃g cap os I J H ke d,vp= δ (ϊ ⟨g,0,ϋ⟩) s.pks.length cap/\T g= .pks/\g<w.heap.size/\(∀j v,(acC s.pks[i] (δ os s.pks[i].pk.ss.length H) (δ I s.pks[i].pk.ex.length ke) (δ J s.pks[i].pk.pl.length d))[j]? =ϊ v->w.cell? ⟨g,i* 13+j,ϋ⟩=ϊ v)/\
  RmP (acC s.pks[i] (δ os s.pks[i].pk.ss.length H) (δ I s.pks[i].pk.ex.length ke) (δ J s.pks[i].pk.pl.length d)) s.pks[i] w0 w k s F:=by
 obtain⟨⟨⟨xs,Y,r⟩,_⟩,ac⟩:=h.all .pks;rcases id Y.2 with ⟨_,ad⟩ | ⟨g,cap,cur,rfl,af,N,ae,ag,_⟩
 ·omega
 ·have O:=r i hi;obtain⟨aj,ah,ai,e,pk⟩:=O.read;obtain⟨os,H,rfl,_⟩:=id pk.s;obtain⟨I,ke,rfl,_⟩:=id pk.e;obtain⟨J,d,rfl,_⟩:=id pk.l;refine⟨g,cap,os,I,J,H,ke,d,rfl,ac g rfl,lt_of_block N,λj v U=> ?_,T,_,vr,h, ?_⟩
  ·have ab:j<13:=by
    have:=(ϟ.1 U).1
    simpa [acC] using this
   rw[Y.cellAt _ τ];have M:=ϵ (λl:List Value=>l[j]?) e;simp only[ο,D0] at M;rw[ϐ ab] at M;rw[M];exact U
  ·have aa:(xs.drop (i* 13)).take 13=acC s.pks[i] (δ os s.pks[i].pk.ss.length H) (δ I s.pks[i].pk.ex.length ke) (δ J s.pks[i].pk.pl.length d):=e;rw[<-aa];exact O.other λb N=>ϑ (ϑ N)
end
section
variable (s:LnS)
def Rc (x:ItS):(xp s x).1=s/\(xp s x).2.2.2≠0/\(xp s x).2.2.1=ύ∨s.gone=ύ/\s.wanted=ό/\jJ x.pk=ό/\jj x.layer=ό/\(xp s x).2.2.2=0/\(xp s x).1={s with A:=if s.A.length<s.room then s.A++[x] else s.A.tail++[x]}/\(xp s x).2.1=(if s.A.length<s.room then 0 else (s.A.head?.map (·.id)).getD 0)/\(xp s x).2.2.1=decide (¬s.A.length<s.room):=by
 unfold xp;split
 ·exact ϑ ⟨rfl,η,rfl⟩
 ·rename_i d;have d:jj x.layer=ό/\jJ x.pk=ό:=by simpa using d
  split
  ·exact ϑ ⟨rfl,η,rfl⟩
  ·rename_i H;split
   ·exact ϑ ⟨rfl,η,rfl⟩
   ·rename_i I;refine ϕ ⟨by simpa using H,by simpa using I,d.2,d.1,rfl, ?_, ?_, ?_⟩
    all_goals (unfold yX;split<;>rename_i J<;>simp[J])
def XJ:(vC s 1=ύ/\jf s=(s,0,0,ύ))∨(vC s 1=ό/\ ∃x A,s.A=x::A/\s.B.length≠s.room/\jf s=({s with A:=A,cur:=(xJ s.cur s.tgt x.layer x.key).1,B:=if (xJ s.cur s.tgt x.layer x.key).2.1=0 then s.B++[(x,(xJ s.cur s.tgt x.layer x.key).2.2)] else s.B},x.id,(xJ s.cur s.tgt x.layer x.key).2.1,ό)):=by
 cases hm:vC s 1 with
 | false=>exact ϑ ⟨rfl,by unfold jf;rw[ϐ hm]⟩
 | true=>
  have d:(decide (0<s.A.length)&&decide (¬s.B.length=s.room))=ό:=hm;rw[B4] at d;cases hA:s.A with
  | nil=>rw[hA] at d;simp at d
  | cons x A=>exact ϕ ⟨rfl,x,A,rfl,by simpa using d.2,by unfold jf;rw[ώ (by rw[hm];decide),hA]⟩
def MZ:(s.B=[]/\qY s=(s,0,ύ,ύ))∨(∃x f B,s.B=(x,f)::B/\qY s=({s with B:=B,rw:=ul s.rw x.pk f,C:=if s.C.length<s.room then s.C++[(x.id,pkB (kY s.rw x.pk f))] else s.C.tail++[(x.id,pkB (kY s.rw x.pk f))]},(if s.C.length<s.room then 0 else (s.C.head?.map (·.1)).getD 0),decide (¬s.C.length<s.room),ό)):=by
 cases hB:s.B with
 | nil=>exact ϑ ⟨rfl,by unfold qY;rw[hB]⟩
 | cons y B=>
  obtain⟨x,f⟩:=y;refine ϕ ⟨x,f,B,rfl, ?_⟩;unfold qY NJ;rw[hB];by_cases h:s.C.length<s.room<;>simp[h]
def uV (acc:Bool):(s.C=[]/\qX s acc=(s,0,0,ύ))∨(∃o C,s.C=o::C/\((V2 s acc).2.2=ύ/\qX s acc=({s with C:=if acc then C else o::C,W:=if acc then s.W++[o] else s.W,row:=(V2 s acc).1,gone:=(V2 s acc).2.1},o.1,(if acc then 1 else 0),ό)∨
  acc=ύ/\s.gone=ύ/\(V2 s acc).2.1=ό/\qX s acc=({s with A:=[],B:=[],C:=[],row:=(V2 s acc).1,gone:=(V2 s acc).2.1},o.1,7,ό))):=by
 cases hC:s.C with
 | nil=>exact ϑ ⟨rfl,by unfold qX;rw[hC]⟩
 | cons o C=>
  refine ϕ ⟨o,C,rfl, ?_⟩;cases hb:(V2 s acc).2.2 with
  | false=>exact ϑ ⟨rfl,by unfold qX;rw[hC];simp[hb]⟩
  | true=>
   have d:s.gone=ύ:=by
    cases d:s.gone with
    | false=>rfl
    | true=>unfold V2 at hb;rw[ϐ d] at hb;simp at hb
   have I:acc=ύ:=by
    cases acc with
    | false=>rfl
    | true=>unfold V2 at hb;rw[ώ (by rw[d];decide),ϐ rfl] at hb;simp at hb
   subst I;have H:(V2 s ύ).2.1=(V2 s ύ).2.2:=by unfold V2;rw[ώ (by rw[d];decide)];rfl
   exact ϕ ⟨rfl,d,by rw[H];exact hb,by unfold qX;rw[hC];simp[hb]⟩
def NR (n:Int):(jO s n).1=s∨s.gone=ύ/\(jO s n).1={s with wanted:=ό,cur:=if s.wanted then s.cur else -1,tgt:=n}:=by
 unfold jO;split
 ·exact ϑ rfl
 ·split
  ·exact ϑ rfl
  ·rename_i h;exact ϕ ⟨by simpa using h,rfl⟩
end
def xI (s:LnS):List Int:=s.A.map (·.id)++s.B.map (·.1.id)++s.C.map (·.1)
def QC (m:Bk) (sub f:Int) (k:Int×Int):qh (vM m sub f) k=(qh m k).map λv=>if k.1=sub/\v=0 then f else v:=by
 unfold vM
 induction m with
 | nil=>simp[qh]
 | cons p l ih=>
  obtain⟨⟨a,c⟩,g⟩:=p;simp only[Ϟ];by_cases h:a=sub/\g=0
  ·rw[ϐ h];unfold qh;by_cases e:k=(a,c)
   ·subst e;simp[h]
   ·simp[e,ih]
  ·rw[ώ h];unfold qh;by_cases e:k=(a,c)
   ·subst e;simp[h]
   ·simp[e,ih]
def xM (strs:List (Og×zu)) (id:Int):Prop:= ∃o t,qh strs o=ϊ t/\id∈thJ t.buf.holds
structure qR (P:Int->Int->Prop) (s:RmS):Prop where
 org: ∀o t,qh s.strs o=ϊ t->o∈orgs
 nd: ∀o t,qh s.strs o=ϊ t->(thJ t.buf.holds).Nodup
 dis: ∀o t o' t',qh s.strs o=ϊ t->qh s.strs o'=ϊ t'-> ∀id,id∈thJ t.buf.holds->id∈thJ t'.buf.holds->o=o'
 few: ∀o t,qh s.strs o=ϊ t-> ∀id∈thJ t.buf.holds,0<=id/\id<(s.pks.length:Int)
 sub: ∀x l,qh s.lanes x=ϊ l->x∈subIds/\1<=l.room/\(xI l).Nodup
 owd: ∀x l,qh s.lanes x=ϊ l-> ∀id∈xI l,qh s.book (x,id)=ϊ 0/\ ¬xM s.strs id/\ ¬P x id
 src: ∀x id,qh s.book (x,id)=ϊ 0-> ∃l,qh s.lanes x=ϊ l/\l.gone=ύ/\l.wanted=ό/\(id∈xI l∨xM s.strs id∨P x id)
 bel: ∀x id v,qh s.book (x,id)=ϊ v->0<=id/\id<(s.pks.length:Int)
def OwO (s:RmS):Prop:=qR (λ_ _=>False) s
def ye (b:Bk) (x id f:Int) (d:1<=f/\f<=8) (k:Int×Int):qh (jp b x id f) k=if k=(x,id)/\qh b k=ϊ 0 then ϊ f else qh b k:=by
 unfold jp;by_cases h:qh b (x,id)=ϊ 0
 ·rw[ϐ h];unfold zi;rw[ϐ d,ϐ (by rw[h];rfl),ϐ (by rw[h];rfl),qF];by_cases e:k=(x,id)
  ·rw[ϐ e,ϐ ⟨e,by rw[e];exact h⟩]
  ·rw[ώ e,ώ (λc=>e c.1)]
 ·rw[ώ h];by_cases e:k=(x,id)
  ·rw[ώ (λc=>h (by rw[<-e];exact c.2))]
  ·rw[ώ (λc=>e c.1)]
def yO (x f:Int) (I:1<=f/\f<=8) (k:Int×Int): ∀(E:List Int) (b:Bk),qh (E.foldl (λb id=>jp b x id f) b) k=if (k.1=x/\k.2∈E)/\qh b k=ϊ 0 then ϊ f else qh b k
 | [],b=>by simp
 | id::E,b=>by
  rw[A6,yO x f I k E,ye b x id f I];obtain⟨H,d⟩:=k;have J:f≠0:=by omega
  by_cases h0:qh b (H,d)=ϊ 0
  ·by_cases e:H=x<;>by_cases e2:d=id<;>by_cases e3:d∈E<;>simp[h0,e,e2,e3]
   all_goals (simp_all)
  ·by_cases e:H=x<;>by_cases e2:d=id<;>by_cases e3:d∈E<;>simp[h0]
def yv (id f:Int) (I:1<=f/\f<=8) (k:Int×Int): ∀(E:List Int) (b:Bk),qh (xG b E id f) k=if (k.2=id/\k.1∈E)/\qh b k=ϊ 0 then ϊ f else qh b k
 | [],b=>by simp[xG]
 | x::E,b=>by
  have J:=yv id f I k E (jp b x id f);unfold xG at J ⊢;rw[A6,J,ye b x id f I];obtain⟨d,H⟩:=k;have M:f≠0:=by omega
  by_cases h0:qh b (d,H)=ϊ 0
  ·by_cases e:H=id<;>by_cases e2:d=x<;>by_cases e3:d∈E<;>simp[h0,e,e2,e3]
   all_goals (simp_all)
  ·by_cases e:H=id<;>by_cases e2:d=x<;>by_cases e3:d∈E<;>simp[h0]
def qR.iff (h:qR P s) (e: ∀x i,P x i↔P' x i):qR P' s:=
  ⟨h.org,h.nd,h.dis,h.few,h.sub,λx l M i hi=>by obtain⟨d,H,I⟩:=h.owd x l M i hi;exact⟨d,H,λc=>I ((e x i).2 c)⟩,
   λx i hi=>by obtain⟨l,d,H,I,J⟩:=h.src x i hi;exact⟨l,d,H,I,by rw[<-e];exact J⟩,h.bel⟩
def qR.same (h:qR P s) (Y:s'.strs=s.strs) (aa:s'.lanes=s.lanes) (ab:s'.book=s.book) (ac:s'.pks=s.pks):qR P s':=by
 obtain⟨M,N,O,I,U,d,H,J⟩:=h;rw[<-Y] at M N O I d H;rw[<-aa] at U d H;rw[<-ab] at d H J;rw[<-ac] at I J;exact⟨M,N,O,I,U,d,H,J⟩
def qR.laneN (h:qR P s) {l':LnS} (N:qh s.lanes x=ϊ l) (M E:List Int) (f:Int) (ab:1<=f/\f<=8) (ad:(xI l'++E).Perm (M++xI l)) (ae: ∀i∈M,P x i/\ ¬xM s.strs i/\qh s.book (x,i)=ϊ 0) (U:M.Nodup) (al:l'.room=l.room) (aj:l'.gone=l.gone) (am:l.wanted=ό->l'.wanted=ό):
  qR (λy i=>P y i/\ ¬(y=x/\i∈M)) {s with lanes:=qx s.lanes x l',book:=E.foldl (λb id=>jp b x id f) s.book}:=by
 have ai:f≠0:=by omega
 have ak:(xI l'++E).Nodup:=by
  rw[ad.nodup_iff,F2];refine⟨U,(h.sub x l N).2.2,λa ag b ah e=> ?_⟩;subst e;exact(h.owd x l N a ah).2.2 (ae a ag).1
 have U:=F2.1 ak;refine⟨h.org,h.nd,h.dis,h.few,λy m H=> ?_,λy m H id ac=> ?_,λy id O=> ?_,λy id v Y=> ?_⟩
 ·rw[qF] at H;split at H
  ·rename_i e;injection H with e2
   subst e e2;exact⟨(h.sub _ l N).1,by rw[al];exact(h.sub _ l N).2.1,U.1⟩
  ·exact h.sub y m H
 ·simp only at H ⊢;rw[qF] at H;rw[yO x f ab];split at H
  ·rename_i e;injection H with e2
   subst e e2;have af: ¬id∈E:=λc=>U.2.2 id ac id c rfl
   rw[ώ (λc=>af c.1.2)];rcases ϯ.1 (ad.subset (ϰ _ ac)) with hi | hi
   ·obtain⟨J,I,d⟩:=ae id hi;exact⟨d,I,λc=>c.2 ⟨rfl,hi⟩⟩
   ·obtain⟨J,I,d⟩:=h.owd y l N id hi;exact⟨J,I,λc=>d c.1⟩
  ·rename_i e;obtain⟨J,I,d⟩:=h.owd y m H id ac;exact⟨by rw[ώ (λc=>e c.1.1)];exact J,I,λc=>d c.1⟩
 ·simp only at O ⊢;rw[yO x f ab] at O;split at O
  ·injection O with e
   exact ϩ e ai
  ·rename_i aa;obtain⟨m,H,J,I,d⟩:=h.src y id O;rw[qF];by_cases e:y=x
   ·subst e;rw[N] at H;injection H with e2
    subst e2;refine⟨l',by rw[ϐ rfl],by rw[aj];exact J,am I, ?_⟩;have key:id∈M++xI l->id∈xI l':=λd=>by
     rcases ϯ.1 (ad.symm.subset d) with h4 | h4
     ·exact h4
     ·exact ϩ ⟨⟨rfl,h4⟩,O⟩ aa
    rcases d with d | d | d
    ·exact ϑ (key (ϓ _ d))
    ·exact ϕ (ϑ d)
    ·by_cases hi:id∈M
     ·exact ϑ (key (ϰ _ hi))
     ·exact ϕ (ϕ ⟨d,λc=>hi c.2⟩)
   ·refine⟨m,by rw[ώ e];exact H,J,I, ?_⟩;rcases d with d | d | d
    ·exact ϑ d
    ·exact ϕ (ϑ d)
    ·exact ϕ (ϕ ⟨d,λc=>e c.1⟩)
 ·simp only at Y;rw[yO x f ab] at Y;split at Y
  ·rename_i aa;exact h.bel y id 0 aa.2
  ·exact h.bel y id v Y
def qR.lane (h:qR P s) {l':LnS} (I:qh s.lanes x=ϊ l) (E:List Int) (f:Int) (d:1<=f/\f<=8) (J:(xI l'++E).Perm (xI l)) (M:l'.room=l.room) (H:l'.gone=l.gone) (N:l.wanted=ό->l'.wanted=ό):
  qR P {s with lanes:=qx s.lanes x l',book:=E.foldl (λb id=>jp b x id f) s.book}:=
 (h.laneN I [] E f d J (λi hi=>by simp at hi) N4 M H N).iff λy i=>by simp
def qR.endL (h:qR P s) (x:Int) {L:List (Int×LnS)} {b:Bk} (M: ∀y,y≠x->qh L y=qh s.lanes y) (U: ∀m,qh L x=ϊ m->x∈subIds/\1<=m.room/\xI m=[])
  (J: ∀y i,y≠x->qh b (y,i)=qh s.book (y,i)) (Y: ∀i,qh b (x,i)≠ϊ 0) (aa: ∀i v,qh b (x,i)=ϊ v-> ∃v',qh s.book (x,i)=ϊ v'):qR P {s with lanes:=L,book:=b}:=by
 refine⟨h.org,h.nd,h.dis,h.few,λy m d=> ?_,λy m d i hi=> ?_,λy i I=> ?_,λy i v H=> ?_⟩
 ·by_cases e:y=x
  ·subst e;obtain⟨N,O,a3⟩:=U m d;exact⟨N,O,by rw[a3];exact N4⟩
  ·exact h.sub y m (by rw[<-M y e];exact d)
 ·by_cases e:y=x
  ·subst e;obtain⟨N,O,a3⟩:=U m d;rw[a3] at hi;simp at hi
  ·simp only at d ⊢;rw[J y i e];exact h.owd y m (by rw[<-M y e];exact d) i hi
 ·by_cases e:y=x
  ·subst e;exact ϩ I (Y i)
  ·simp only at I ⊢;rw[J y i e] at I;rw[M y e];exact h.src y i I
 ·by_cases e:y=x
  ·subst e;obtain⟨v',ab⟩:=aa i v H;exact h.bel y i v' ab
  ·simp only at H;rw[J y i e] at H;exact h.bel y i v H
def held_put {strs:List (Og×zu)} {i:Int}:xM (qx strs o t') i↔i∈thJ t'.buf.holds∨ ∃H t,H≠o/\qh strs H=ϊ t/\i∈thJ t.buf.holds:=by
 constructor
 ·rintro⟨H,t,d,I⟩;rw[qF] at d;by_cases e:H=o
  ·rw[ϐ e] at d;injection d with e1
   subst e1;exact ϑ I
  ·rw[ώ e] at d;exact ϕ ⟨H,t,e,d,I⟩
 ·rintro(h | ⟨H,t,e,d,I⟩)
  ·exact⟨o,t',by rw[qF,ϐ rfl],h⟩
  ·exact⟨H,t,by rw[qF,ώ e];exact d,I⟩
def qR.shrink (h:qR P s) (J:qh s.strs o=ϊ t) (E:List Int) (N:(thJ t'.buf.holds++E).Perm (thJ t.buf.holds)):
  qR (λx i=>P x i∨i∈E) {s with strs:=qx s.strs o t'}/\(∀i∈E,¬xM (qx s.strs o t') i)/\ ∀i,xM (qx s.strs o t') i->xM s.strs i:=by
 have ak:=N.nodup_iff.2 (h.nd o t J);have U:=F2.1 ak;have ab: ∀i,xM (qx s.strs o t') i->xM s.strs i:=λi hi=>by
  rcases held_put.1 hi with M | ⟨H,u,_,O,h3⟩
  ·exact⟨o,t,J,N.subset (ϰ _ M)⟩
  ·exact⟨H,u,O,h3⟩
 have am: ∀i,xM s.strs i->xM (qx s.strs o t') i∨i∈E:=λi ⟨H,u,M,O⟩=>by
  by_cases e:H=o
  ·subst e;rw[J] at M;injection M with e1
   subst e1;rcases ϯ.1 (N.symm.subset O) with h3 | h3
   ·exact ϑ (held_put.2 (ϑ h3))
   ·exact ϕ h3
  ·exact ϑ (held_put.2 (ϕ ⟨H,u,e,M,O⟩))
 refine⟨⟨λH u d=> ?_,λH u d=> ?_,λan aq o2 ar Y aa i ah ai=> ?_,λH u d i hi=> ?_,h.sub,λx l aj i hi=> ?_,λx i al=> ?_,h.bel⟩,λi hi ag=> ?_,ab⟩
 ·rw[qF] at d;split at d
  ·rename_i e;rw[e];exact h.org o t J
  ·exact h.org H u d
 ·rw[qF] at d;split at d
  ·injection d with e
   subst e;exact U.1
  ·exact h.nd H u d
 ·simp only[qF] at Y aa;have q: ∀{H:Og} {u:zu},(if H=o then ϊ t' else qh s.strs H)=ϊ u->i∈thJ u.buf.holds-> ∃v,qh s.strs H=ϊ v/\i∈thJ v.buf.holds:=by
   intro H u d hi;split at d
   ·rename_i e;injection d with e2
    subst e2;exact⟨t,by rw[e];exact J,N.subset (ϰ _ hi)⟩
   ·exact⟨u,d,hi⟩
  obtain⟨ao,ac,ae⟩:=q Y ah;obtain⟨ap,ad,af⟩:=q aa ai;exact h.dis an ao o2 ap ac ad i ae af
 ·simp only at d;rw[qF] at d;split at d
  ·injection d with e
   subst e;exact h.few o t J i (N.subset (ϰ _ hi))
  ·exact h.few H u d i hi
 ·obtain⟨a,b,c⟩:=h.owd x l aj i hi;refine⟨a,λI=>b (ab i I),λI=>I.elim c λI=>b ⟨o,t,J,N.subset (ϓ _ I)⟩⟩
 ·obtain⟨l,a,b,c,I⟩:=h.src x i al;refine⟨l,a,b,c, ?_⟩;rcases I with I | I | I
  ·exact ϑ I
  ·rcases am i I with e | e
   ·exact ϕ (ϑ e)
   ·exact ϕ (ϕ (ϕ e))
  ·exact ϕ (ϕ (ϑ I))
 ·rcases held_put.1 ag with M | ⟨H,u,e,O,h3⟩
  ·exact U.2.2 i M i hi rfl
  ·exact e (h.dis H u o t O J i h3 (N.subset (ϓ _ hi)))
def qR.keep (h:qR P s) (d:qh s.strs o=ϊ t) (e:t'.buf.holds=t.buf.holds):qR P {s with strs:=qx s.strs o t'}:=
 (h.shrink (t':=t') d [] (by rw[e,ε])).1.iff λx i=>by simp
def qR.strNew (h:qR P s) (ac:o∈orgs) (ab:qh s.strs o=ϋ) (e:t'.buf.holds=[]):qR P {s with strs:=qx s.strs o t'}:=by
 have k: ∀i,xM (qx s.strs o t') i↔xM s.strs i:=λi=>by
  rw[held_put,e];constructor
  ·rintro(Y | ⟨H,u,_,I,J⟩)
   ·simp[thJ] at Y
   ·exact⟨H,u,I,J⟩
  ·rintro⟨H,u,I,J⟩;exact ϕ ⟨H,u,(λc=>by rw[c,ab] at I;cases I),I,J⟩
 refine⟨λH u d=> ?_,λH u d=> ?_,λae af o2 ag O U i M N=> ?_,λH u d i hi=> ?_,h.sub,λx l aa i hi=> ?_,λx i ad=> ?_,h.bel⟩
 ·rw[qF] at d;split at d
  ·rename_i e;rw[e];exact ac
  ·exact h.org H u d
 ·rw[qF] at d;split at d
  ·injection d with e2
   subst e2;rw[e];exact N4
  ·exact h.nd H u d
 ·simp only[qF] at O U;have q: ∀{H:Og} {u:zu},(if H=o then ϊ t' else qh s.strs H)=ϊ u->i∈thJ u.buf.holds->qh s.strs H=ϊ u:=by
   intro H u d hi;split at d
   ·injection d with e2
    subst e2;rw[e] at hi;simp[thJ] at hi
   ·exact d
  exact h.dis ae af o2 ag (q O M) (q U N) i M N
 ·simp only at d;rw[qF] at d;split at d
  ·injection d with e2
   subst e2;rw[e] at hi;simp[thJ] at hi
  ·exact h.few H u d i hi
 ·rw[k];exact h.owd x l aa i hi
 ·simp only[k];exact h.src x i ad
def qR.grow (h:qR P s) (N:qh s.strs o=ϊ t) (J:Int) (O:(thJ t'.buf.holds).Perm (J::thJ t.buf.holds)) (hi:0<=J/\J<(s.pks.length:Int)) (ad: ¬xM s.strs J) (ar: ∀x l,qh s.lanes x=ϊ l->J∉xI l):
  qR (λx i=>P x i/\i≠J) {s with strs:=qx s.strs o t'}:=by
 have av:(thJ t'.buf.holds).Nodup:=by
  rw[O.nodup_iff,D1];exact⟨λc=>ad ⟨o,t,N,c⟩,h.nd o t N⟩
 have ae: ∀i,xM (qx s.strs o t') i↔i=J∨xM s.strs i:=λi=>by
  rw[held_put];constructor
  ·rintro(ac | ⟨H,u,_,U,Y⟩)
   ·rcases Ϯ.1 (O.subset ac) with h4 | h4
    ·exact ϑ h4
    ·exact ϕ ⟨o,t,N,h4⟩
   ·exact ϕ ⟨H,u,U,Y⟩
  ·rintro(ac | ⟨H,u,U,Y⟩)
   ·exact ϑ (O.symm.subset (by rw[ac];exact ϛ))
   ·by_cases e:H=o
    ·subst e;rw[N] at U;injection U with aa
     subst aa;exact ϑ (O.symm.subset (ϫ _ Y))
    ·exact ϕ ⟨H,u,e,U,Y⟩
 refine⟨λH u d=> ?_,λH u d=> ?_,λam ax o2 ay ak al i au M=> ?_,λH u d i M=> ?_,h.sub,λx l aj i M=> ?_,λx i aw=> ?_,h.bel⟩
 ·rw[qF] at d;split at d
  ·rename_i e;rw[e];exact h.org o t N
  ·exact h.org H u d
 ·rw[qF] at d;split at d
  ·injection d with e
   subst e;exact av
  ·exact h.nd H u d
 ·simp only[qF] at ak al;have q: ∀{H:Og} {u:zu},(if H=o then ϊ t' else qh s.strs H)=ϊ u->i∈thJ u.buf.holds->(i=J/\H=o)∨ ∃v,qh s.strs H=ϊ v/\i∈thJ v.buf.holds:=by
   intro H u d hi;split at d
   ·rename_i e;injection d with ab
    subst ab;rcases Ϯ.1 (O.subset hi) with h4 | h4
    ·exact ϑ ⟨h4,e⟩
    ·exact ϕ ⟨t,by rw[e];exact N,h4⟩
   ·exact ϕ ⟨u,d,hi⟩
  rcases q ak au with ⟨aa,ab⟩ | ⟨an,af,ah⟩<;>rcases q al M with ⟨ap,aq⟩ | ⟨ao,ag,ai⟩
  ·rw[ab,aq]
  ·exact ϩ ⟨o2,ao,ag,by rw[<-aa];exact ai⟩ ad
  ·exact ϩ ⟨am,an,af,by rw[<-ap];exact ah⟩ ad
  ·exact h.dis am an o2 ao af ag i ah ai
 ·simp only at d;rw[qF] at d;split at d
  ·injection d with e
   subst e;rcases Ϯ.1 (O.subset M) with h4 | h4
   ·rw[h4];exact hi
   ·exact h.few o t N i h4
  ·exact h.few H u d i M
 ·obtain⟨a,b,c⟩:=h.owd x l aj i M;refine⟨a,λI=> ?_,λI=>c I.1⟩;rcases(ae i).1 I with e | e
  ·exact ar x l aj (by rw[<-e];exact M)
  ·exact b e
 ·obtain⟨l,a,b,c,I⟩:=h.src x i aw;refine⟨l,a,b,c, ?_⟩;rcases I with I | I | I
  ·exact ϑ I
  ·exact ϕ (ϑ ((ae i).2 (ϕ I)))
  ·by_cases e:i=J
   ·exact ϕ (ϑ ((ae i).2 (ϑ e)))
   ·exact ϕ (ϕ ⟨I,e⟩)
def qR.settled (h:qR P s) (L:List Int) (I f:Int) (N:1<=f/\f<=8) (U: ∀x,qh s.book (x,I)=ϊ 0->x∈L) (Y: ∀x l,qh s.lanes x=ϊ l->I∉xI l):
  qR (λx i=>P x i/\i≠I) {s with book:=xG s.book L I f}:=by
 have aa:f≠0:=by omega
 refine⟨h.org,h.nd,h.dis,h.few,h.sub,λx l O i hi=> ?_,λx i H=> ?_,λx i v J=> ?_⟩
 ·obtain⟨a,b,c⟩:=h.owd x l O i hi;simp only;rw[yv I f N,ώ (λe=>Y x l O (by rw[<-e.1.1];exact hi))];exact⟨a,b,λd=>c d.1⟩
 ·simp only at H ⊢;rw[yv I f N] at H;split at H
  ·injection H with e
   exact ϩ e aa
  ·rename_i M;obtain⟨l,a,b,c,d⟩:=h.src x i H;refine⟨l,a,b,c, ?_⟩;rcases d with d | d | d
   ·exact ϑ d
   ·exact ϕ (ϑ d)
   ·exact ϕ (ϕ ⟨d,λe=>M ⟨⟨e,U x (by rw[<-e];exact H)⟩,H⟩⟩)
 ·simp only at J;rw[yv I f N] at J;split at J
  ·rename_i M;exact h.bel x i 0 M.2
  ·exact h.bel x i v J
def Kt (l:LnS):(xI (jf l).1++(if (jf l).2.2.2&& !decide ((jf l).2.2.1=0) then [(jf l).2.1] else [])).Perm (xI l)/\(jf l).1.room=l.room/\(jf l).1.gone=l.gone/\(jf l).1.wanted=l.wanted/\(jf l).2.2.1<=8/\0<=(jf l).2.2.1:=by
 rcases XJ l with ⟨_,e⟩ | ⟨_,x,A,d,_,e⟩
 ·rw[e];simp
 ·rw[e];refine⟨?_,rfl,rfl,rfl, ?_⟩
  ·unfold xI;rw[d];by_cases ht:(xJ l.cur l.tgt x.layer x.key).2.1=0
   ·simp only[ht,A7,decide_true,Bool.not_true,N5,Ϭ,C2,ε,ϻ,Ϟ,D4];rw[D2];intro a;simp only[E8,J1,K4];omega
   ·simp only[ht,C2,decide_false,Bool.not_false,Bool.and_true,A7,Ϟ];rw[D2];intro a;simp only[E8,J1,K4];omega
  ·unfold xJ
   repeat' split
   all_goals (simp)
def YV (l:LnS) (h:1<=l.room):(xI (qY l).1++(if (qY l).2.2.2&&(qY l).2.2.1 then [(qY l).2.1] else [])).Perm (xI l)/\(qY l).1.room=l.room/\(qY l).1.gone=l.gone/\(qY l).1.wanted=l.wanted:=by
 rcases MZ l with ⟨_,e⟩ | ⟨x,f,B,d,e⟩
 ·rw[e];simp
 ·rw[e];refine⟨?_,rfl,rfl,rfl⟩;unfold xI;rw[d];by_cases hc:l.C.length<l.room
  ·simp only[hc,A7,not_true,decide_false,N5,Ϭ,C2,ε,ϻ,Ϟ,D4];rw[D2];intro a;simp only[E8,J1,K4];omega
  ·cases hC:l.C with
   | nil=>rw[hC] at hc;simp at hc;omega
   | cons o C=>
    rw[hC] at hc;simp only[hc,C2,not_false_eq_true,decide_true,Bool.and_true,A7,ϻ,Ϟ,D4,U2,List.head?_cons,C3,ϣ];rw[D2];intro a;simp only[E8,J1,K4];omega
def Bi (l:LnS) (x:ItS) (h:1<=l.room) (d:l.gone=ύ) (H:l.wanted=ό) (I:jJ x.pk=ό) (J:jj x.layer=ό):(xI (xp l x).1++(if (xp l x).2.2.1 then [(xp l x).2.1] else [])).Perm (x.id::xI l)/\(xp l x).1.room=l.room/\(xp l x).1.gone=l.gone/\(xp l x).1.wanted=l.wanted:=by
 have e:xp l x=((yX l x).1,(yX l x).2.1,(yX l x).2.2,0):=by unfold xp;rw[d,H,I,J];simp
 rw[e];unfold yX;by_cases hc:l.A.length<l.room
 ·rw[ϐ hc];refine⟨?_,rfl,rfl,rfl⟩;unfold xI;simp only[Ϭ,C2,ε,ϻ,Ϟ,D4];rw[D2];intro a;simp only[E8,J1,K4];omega
 ·rw[ώ hc];refine⟨?_,rfl,rfl,rfl⟩;unfold xI;cases hA:l.A with
  | nil=>rw[hA] at hc;simp at hc;omega
  | cons o A=>
   simp only[A7,ϻ,Ϟ,D4,U2,List.head?_cons,C3,ϣ];rw[D2];intro a;simp only[E8,J1,K4];omega
def UV (l:LnS) (n:Int) (d:n=1∨n=2∨n=3):(xI (vh l n)++KG l n).Perm (xI l):=by
 unfold xI vh KG;rcases d with rfl | rfl | rfl<;>simp only[A7,(by decide: ¬(2:Int)=1),(by decide: ¬(3:Int)=1),(by decide: ¬(3:Int)=2),(by decide: ¬(1:Int)=2),(by decide: ¬(1:Int)=3),(by decide: ¬(2:Int)=3),C2,D4,J0,ε]
 ·rw[D2];intro a;simp only[E8];omega
 ·rw[D2];intro a;simp only[E8];omega
 ·exact List.Perm.refl _
def qR.fin (h:qR P s) (M: ∀y i,P y i->y∈subIds->False):OwO s:=
  ⟨h.org,h.nd,h.dis,h.few,h.sub,λx l N i hi=>by obtain⟨H,I,_⟩:=h.owd x l N i hi;exact⟨H,I,λc=>c⟩,
   λx i hi=>by
    obtain⟨l,H,I,J,d⟩:=h.src x i hi
    refine⟨l,H,I,J, ?_⟩
    rcases d with d | d | d
    · exact ϑ d
    · exact ϕ (ϑ d)
    · exact(M x i d (h.sub x l H).1).elim,h.bel⟩
def qR.choose (h:qR P s) (x:Int):qR P (s.choose x):=by
 unfold RmS.choose;cases hl:qh s.lanes x with
 | none=>exact h
 | some l=>
  obtain⟨d,I,H,J,N,M⟩:=Kt l;simp only;cases hc:(jf l).2.2.2&& !decide ((jf l).2.2.1=0) with
  | false=>
   rw[hc] at d;simp only[Ϭ,C2] at d ⊢;exact h.lane hl [] 1 ζ d I H (λe=>by rw[J];exact e)
  | true=>
   rw[hc] at d;simp only[A7] at d ⊢;have:(jf l).2.2.1≠0:=by
    intro e;rw[e] at hc;simp at hc
   exact h.lane hl [(jf l).2.1] (jf l).2.2.1 τ d I H (λe=>by rw[J];exact e)
def qR.rewrite (h:qR P s) (x:Int):qR P (s.rewrite x):=by
 unfold RmS.rewrite;cases hl:qh s.lanes x with
 | none=>exact h
 | some l=>
  obtain⟨d,I,H,J⟩:=YV l (h.sub x l hl).2.1;simp only;cases hc:(qY l).2.2.2&&(qY l).2.2.1 with
  | false=>
   rw[hc] at d;simp only[Ϭ,C2] at d ⊢;exact h.lane hl [] 1 ζ d I H (λe=>by rw[J];exact e)
  | true=>
   rw[hc] at d;simp only[A7] at d ⊢;exact h.lane hl [(qY l).2.1] 6 ζ d I H (λe=>by rw[J];exact e)
def qR.drainL (h:qR P s) (w:Og):qR P (s.drainL w):=by
 unfold RmS.drainL;cases hl:qh s.lanes w.2 with
 | none=>exact h
 | some l=>
  simp only;refine h.lane hl (KG l (xB w.1)) 8 ζ (UV l _ ?_) rfl rfl (λe=>e);unfold xB
  repeat' split
  all_goals simp
def VR (m:Bk) (x i:Int) {f:Int} (d:f≠0):qh (vM m x f) (x,i)≠ϊ 0:=by
 rw[QC];cases qh m (x,i) with
 | none=>simp
 | some v=>
  simp only[C3,X6];split
  ·intro e;injection e with e;exact d e
  ·rename_i H;intro e;injection e with e;exact H e
def XH (m:Bk) {y:Int} (i f:Int) (h:y≠x):qh (vM m x f) (y,i)=qh m (y,i):=by
 rw[QC];cases qh m (y,i) with
 | none=>rfl
 | some v=>simp[h]
def VQ (m:Bk) (x i f v:Int) (h:qh (vM m x f) (x,i)=ϊ v): ∃v',qh m (x,i)=ϊ v':=by
 rw[QC] at h;cases hm:qh m (x,i) with
 | none=>rw[hm] at h;cases h
 | some v'=>exact⟨v',rfl⟩
def qR.write (h:qR P s) (x:Int) (acc:Bool):qR P (s.write x acc):=by
 unfold RmS.write;cases hl:qh s.lanes x with
 | none=>exact h
 | some l=>
  have ac:l.gone=ό->xI l=[]:=λd=>by
   cases hi:xI l with
   | nil=>rfl
   | cons i L=>
    obtain⟨ad,_⟩:=h.owd x l hl i (by rw[hi];exact ϛ);obtain⟨af,U,Y,_⟩:=h.src x i ad;rw[hl] at U;injection U with e
    subst e;rw[d] at Y;cases Y
  simp only;cases d:(qX l acc).1.gone with
  | true=>
   have hi:(qX l acc).1.room=l.room/\xI (qX l acc).1=[]:=by
    rcases uV l acc with ⟨_,e⟩ | ⟨o,C,N,⟨H,e⟩ | ⟨_,_,_,e⟩⟩
    ·rw[e] at d ⊢;exact⟨rfl,ac d⟩
    ·rw[e] at d;simp only at d;exfalso;have I:l.gone=ό:=by
      cases I:l.gone with
      | true=>rfl
      | false=>
       unfold V2 at H d;rw[ώ (by rw[I];decide)] at H d;cases acc with
       | true=>simp at d
       | false=>
        simp only[Ϭ,C2] at H d;rw[H] at d;cases d
     have:=ac I;unfold xI at this;rw[N] at this;simp at this
    ·rw[e];exact⟨rfl,rfl⟩
   simp only[A7];obtain⟨b,H,aa⟩: ∃b,(if (qX l acc).2.2.2&&decide ((qX l acc).2.2.1=1) then jp s.book x (qX l acc).2.1 (qX l acc).2.2.1 else s.book)=b/\(∀y i,y≠x->qh b (y,i)=qh s.book (y,i))/\ ∀i v,qh b (x,i)=ϊ v-> ∃v',qh s.book (x,i)=ϊ v':=by
    refine⟨_,rfl, ?_⟩;split
    ·rename_i O;rw[B4] at O;have:(qX l acc).2.2.1=1:=Ϛ O.2;rw[this];refine⟨λy i M=> ?_,λi v J=> ?_⟩
     ·rw[ye _ _ _ _ ζ,ώ (λc=>M (by have:=ϵ Prod.fst c.1;exact this))]
     ·rw[ye _ _ _ _ ζ] at J;split at J
      ·rename_i O;exact⟨0,O.2⟩
      ·exact⟨v,J⟩
    ·exact⟨λy i M=>rfl,λi v J=>⟨v,J⟩⟩
   rw[H];refine(h.endL x (L:=qx s.lanes x (qX l acc).1) (b:=vM b x 7) (λy M=>by rw[qF,ώ M]) (λm ab=> ?_) (λy i M=> ?_) (λi=>VR b x i ζ) (λi v J=> ?_)).same rfl rfl rfl rfl
   ·rw[qF,ϐ rfl] at ab;injection ab with e
    subst e;exact⟨(h.sub x l hl).1,by rw[hi.1];exact(h.sub x l hl).2.1,hi.2⟩
   ·rw[XH b i 7 M];exact aa.1 y i M
   ·obtain⟨v',ae⟩:=VQ b x i 7 v J;exact aa.2 i v' ae
  | false=>
   simp only[Ϭ,C2];rcases uV l acc with ⟨_,e⟩ | ⟨o,C,N,⟨H,e⟩ | ⟨_,_,H,e⟩⟩
   ·rw[e] at d ⊢;simp only[K3,Ϭ,C2];exact(h.lane hl [] 1 ζ (by rw[ε]) rfl rfl (λe=>e)).same rfl rfl rfl rfl
   ·rw[e] at d ⊢;simp only at d;have I:l.gone=ύ:=by
     cases I:l.gone with
     | false=>rfl
     | true=>
      unfold V2 at d;rw[ϐ I] at d;cases d
    cases acc with
    | true=>
     simp only[A7,G3,decide_true];refine(h.lane (l':={l with C:=C,W:=l.W++[o],row:=(V2 l ό).1,gone:=(V2 l ό).2.1}) hl [o.1] 1 ζ ?_ rfl (by rw[I];exact d) (λe=>e)).same rfl rfl rfl rfl;unfold xI;rw[N];rw[D2];intro a;simp only[E8,Ϟ,J1,K4];omega
    | false=>
     simp only[Ϭ,C2,(by decide: ¬(0:Int)=1),decide_false,N5];refine(h.lane (l':={l with C:=o::C,row:=(V2 l ύ).1,gone:=(V2 l ύ).2.1}) hl [] 1 ζ ?_ rfl (by rw[I];exact d) (λe=>e)).same rfl rfl rfl rfl;unfold xI;rw[N,ε]
   ·rw[e] at d;simp only at d;rw[H] at d;cases d
def GY (d:ItS) (x:Int):(s.put1 d x).strs=s.strs/\(s.put1 d x).pks=s.pks:=by
 unfold RmS.put1;split
 ·cases qh s.lanes x with
  | none=>exact⟨rfl,rfl⟩
  | some l=>simp only;split<;>exact⟨rfl,rfl⟩
 ·exact⟨rfl,rfl⟩
def qR.put1 (h:qR P s) (d:ItS) (x:Int) (Y:P x d.id) (ab: ¬xM s.strs d.id) (ac:jJ d.pk=ό) (ad:jj d.layer=ό):
  qR (λy i=>P y i/\ ¬(y=x/\i=d.id)) (s.put1 d x):=by
 unfold RmS.put1;by_cases ho:qh s.book (x,d.id)=ϊ 0
 ·rw[ϐ ho];obtain⟨l,J,aa,ae,_⟩:=h.src x d.id ho;rw[J];simp only;obtain⟨I,N,O,U⟩:=Bi l d (h.sub x l J).2.1 aa ae ac ad
  have key:=λE f hf (hq:(xI (xp l d).1++E).Perm ([d.id]++xI l))=>(h.laneN J [d.id] E f hf hq (λi hi=>by
   rw[C0] at hi;rw[hi]
   exact⟨Y,ab,ho⟩) η N O (λe=>by rw[U];exact e)).iff (P':=λy i=>P y i/\ ¬(y=x/\i=d.id)) (λy i=>by simp)
  cases hd:(xp l d).2.2.1 with
  | true=>
   rw[hd] at I;simp only[A7] at I ⊢;exact key [(xp l d).2.1] 6 ζ I
  | false=>
   rw[hd] at I;simp only[Ϭ,C2] at I ⊢;exact key [] 6 ζ I
 ·rw[ώ ho]
  exact⟨h.org,h.nd,h.dis,h.few,h.sub,λy l J i hi=>by obtain⟨a,b,c⟩:=h.owd y l J i hi;exact⟨a,b,λH=>c H.1⟩,λy i M=>by
   obtain⟨l,a,b,c,H⟩:=h.src y i M;refine⟨l,a,b,c, ?_⟩;rcases H with H | H | H
   ·exact ϑ H
   ·exact ϕ (ϑ H)
   ·exact ϕ (ϕ ⟨H,λe=>ho (by rw[<-e.1,<-e.2];exact M)⟩),h.bel⟩
def qR.puts (H:ItS) (I:jJ H.pk=ό) (J:jj H.layer=ό): ∀(L:List Int) {P:Int->Int->Prop} {s:RmS},qR P s->L.Nodup->(∀x∈L,P x H.id)-> ¬xM s.strs H.id->
  qR (λy i=>P y i/\ ¬(y∈L/\i=H.id)) (L.foldl (RmS.put1 H) s)
 | [],P,s,h,_,_,_=>h.iff λy i=>by simp
 | x::L,P,s,h,hn,hP,hh=>by
  rw[D1] at hn;rw[A6];have N:=h.put1 H x (hP x ϛ) hh I J;refine(qR.puts H I J L N hn.2 (λy M=>⟨hP y (ϫ _ M),λe=>hn.1 (by rw[<-e.1];exact M)⟩) (by rw[(GY H x).1];exact hh)).iff λy i=> ?_
  rw[Ϯ];constructor
  ·rintro⟨⟨a,b⟩,c⟩;exact⟨a,λd=>d.1.elim (λe=>b ⟨e,d.2⟩) (λe=>c ⟨e,d.2⟩)⟩
  ·rintro⟨a,b⟩;exact⟨⟨a,λd=>b ⟨ϑ d.1,d.2⟩⟩,λd=>b ⟨ϕ d.1,d.2⟩⟩
def Bt {b:Jb} {d:Int} (h:xa b d=ό):(thJ (yD b d).1.holds++[(yD b d).2.2.1]).Perm (thJ b.holds):=by
 unfold yD;cases hb:b.holds with
 | nil=>unfold xa at h;rw[hb] at h;cases h
 | cons x T=>
  simp only[h,A7];unfold xT;rw[hb];simp only[thJ,Ϟ];exact List.perm_append_singleton _ _
def XD (h:o∈orgs):jj o.2=ό:=by
 unfold orgs at h;simp only[Ϯ,R5,or_false] at h;rcases h with rfl | rfl | rfl | rfl | rfl | rfl | rfl | rfl | rfl<;>rfl
def qR.order (h:OwO s) (U: ∀a∈s.pks,jJ a.pk=ό):OwO s.order:=by
 unfold RmS.order;cases d:s.ready with
 | none=>exact h
 | some o=>
  simp only;cases ht:qh s.strs o with
  | none=>exact h
  | some t=>
   simp only;have Y:xa t.buf s.clock=ό:=by
    have:=S3 d;unfold RmS.readyAt at this;rw[ht] at this;exact this
   have I:=Bt Y;obtain⟨J,M,aa⟩:=qR.shrink h (t':={t with buf:=(yD t.buf s.clock).1}) ht [(yD t.buf s.clock).2.2.1] I;have hi:=h.few o t ht _ (I.subset (ϓ _ ϛ));unfold RmS.orderAt;have O:jJ (s.item o (yD t.buf s.clock).2.2.1).pk=ό:=by
    refine U _ ?_;have H:(yD t.buf s.clock).2.2.1.toNat<s.pks.length:=by omega
    rw[ϒ,ϖ H];exact ϡ H
   refine(qR.puts (s.item o (yD t.buf s.clock).2.2.1) O (XD (h.org o t ht)) subIds J ζ (λx _=>ϕ ϛ) (M _ ϛ)).fin λy i N d=> ?_
   obtain⟨a,b⟩:=N;rcases a with a | a
   ·exact a
   ·rw[C0] at a;exact b ⟨d,a⟩
def qR.drain1s: ∀(L:List Int) {P:Int->Int->Prop} {s:RmS},qR P s->(∀i∈L,∀x l,qh s.lanes x=ϊ l->i∉xI l)->qR (λy i=>P y i/\i∉L) (L.foldl RmS.drain1 s)
 | [],P,s,h,_=>h.iff λy i=>by simp
 | i0::L,P,s,h,hL=>by
  rw[A6]
  have H:qR (λx i=>P x i/\i≠i0) (s.drain1 i0):=h.settled subIds i0 8 ζ (λx I=>by
   obtain⟨l,a,_⟩:=h.src x i0 I
   exact(h.sub x l a).1) (hL i0 ϛ)
  refine(qR.drain1s L H (λi hi=>hL i (ϫ _ hi))).iff λy i=> ?_
  rw[Ϯ];constructor
  ·rintro⟨⟨a,b⟩,c⟩;exact⟨a,λd=>d.elim b c⟩
  ·rintro⟨a,b⟩;exact⟨⟨a,λd=>b (ϑ d)⟩,λd=>b (ϕ d)⟩
def XG: ∀(n:Nat) (b:Jb),b.holds.length<=n->(Qr n b).holds=[]:=by
 intro n
 induction n with
 | zero=>intro b h;unfold Qr;exact K0.1 τ
 | succ n ih=>
  intro b h;unfold Qr;refine ih _ ?_;unfold xT;cases hb:b.holds with
  | nil=>simp only[hb];simp
  | cons x T=>rw[hb] at h;simp only[ϙ] at h ⊢;omega
def qR.drainO (h:OwO s) (o:Og):OwO (s.drainO o):=by
 unfold RmS.drainO;cases ht:qh s.strs o with
 | none=>exact h
 | some t=>
  simp only;have M:(vP t.buf).holds=[]:=XG _ _ (ϔ _);obtain⟨d,N,O⟩:=qR.shrink h (t':={t with buf:=vP t.buf}) ht (thJ t.buf.holds) (by simp only[M];exact List.Perm.refl _);refine(qR.drain1s (thJ t.buf.holds) d (λi hi x l J I=>(h.owd x l J i I).2.1 ⟨o,t,ht,hi⟩)).fin λy i H _=> ?_
  obtain⟨a,b⟩:=H;exact a.elim id b
def qR.drainOs: ∀(L:List Og) {s:RmS},OwO s->OwO (L.foldl RmS.drainO s)
 | [],_,h=>h
 | o::L,_,h=>qR.drainOs L (qR.drainO h o)
def Yo {s:RdS} {n:Int} (H:0<=n) (h:(tkS s n).2=0):s.2=0/\n<=s.1.length/\((tkS s n).1.length:Int)=s.1.length-n/\((tkB s.1 n).length:Int)=n:=by
 obtain⟨l,e⟩:=s;unfold tkS tkE tkL at *;simp only at h ⊢;split at h
 ·cases h
 ·rename_i I;have d:n<=(l.length:Int):=by
   rcases Int.lt_or_le (l.length:Int) n with c | c
   ·exact ϩ ⟨c,h⟩ I
   ·exact c
  refine⟨h,d, ?_,(uM H d).2⟩;rw[Ϣ];omega
def Yw: ∀(n:Nat) {s:RdS},(j9 n s).2.2=0->s.2=0/\4* n<=s.1.length/\(j9 n s).2.1.length=s.1.length-4* n
 | 0,s,h=>⟨h,τ,by show s.1.length=_;omega⟩
 | n+1,s,h=>by
  obtain⟨d,I,a3,_⟩:=Yo (s:=(j9 n s).2) (n:=4) ζ h;obtain⟨H,J,M⟩:=Yw n d;refine⟨H,τ, ?_⟩;show (tkS (j9 n s).2 4).1.length=_;omega
def us: ∀(n:Nat) {s:RdS},Byt s.1->Byt (j9 n s).2.1/\ ∀x∈(j9 n s).1,U32 x
 | 0,s,h=>⟨h,λx d=>by cases d⟩
 | n+1,s,h=>by
  obtain⟨a,b⟩:=us n h;refine⟨a.drop _,λx d=> ?_⟩;rcases ϯ.1 d with c | c
  ·exact b x c
  ·rw[C0] at c;have H:=JH (s:=(j9 n s).2) a 4 ζ;rw[c];exact⟨H.1,by have:=H.2;show num (tkB (j9 n s).2.1 ((4:Nat):Int))<=4294967295;omega⟩
def EA {f:Int} {s:RdS} (J:Byt s.1) (h:(vB f s).2=0):s.2=0/\(vB f s).1.length<=s.1.length/\Byt (vB f s).1:=by
 unfold vB at *;split at h
 ·rename_i d;exact ϩ h d
 ·rename_i d;rw[ώ d];have I:s.2=0:=Classical.not_not.1 d;split at h
  ·rename_i H;rw[ϐ H];split at h
   ·rename_i M;rw[ϐ M];refine⟨I, ?_⟩;simp only;unfold xL;split
    ·exact⟨Δ _,xh⟩
    ·split
     ·exact⟨Δ _,xh⟩
     ·exact⟨by rw[Ϡ];omega,J.take _⟩
   ·cases h
  ·rename_i H;rw[ώ H];exact⟨I,ϔ _,J⟩
def Wz {l:List Int} (h: ∀x∈l,U32 x) (i:Nat):U32 (l.getD i 0):=by
 rw[ϒ];cases hi:l[i]? with
 | none=>exact⟨ζ,ζ⟩
 | some x=>exact h x (List.mem_of_getElem? hi)
def Xc (J:Byt b) (h:(jl b).2=0):uf (jl b).1/\uj (jl b).1/\jJ (jl b).1=ό/\0<=(jl b).1.sq/\(jl b).1.sq<=65535:=by
 rw[<-GP] at h ⊢;unfold Ry at h ⊢;split at h
 ·cases h
 ·rename_i ap;rw[ώ ap];split at h
  ·cases h
  ·rename_i al;rw[ώ al];split at h
   ·cases h
   ·rename_i ao;rw[ώ ao];have M:Byt (b.drop 12):=J.drop 12;have am:Byt (yj (fH b) (b.drop 12,0)).2.1:=by
     unfold yj Qj;split
     ·exact(((us _ M).1.drop _).drop _).drop _
     ·exact(us _ M).1
    have N:(vB (fH b) (yj (fH b) (b.drop 12,0)).2).2=0:=by
     unfold JJ at h;split at h
     ·assumption
     ·rename_i an;exact ϩ h an
    unfold JJ;rw[ϐ N];obtain⟨d,I,p2⟩:=EA am N;have ay:(fH b%16).toNat<=15:=by omega
    have ac:=JH (s:=s2H b) ((J.drop _).drop _) 2 ζ;have ad:=JH (s:=s3H b) (((J.drop _).drop _).drop _) 4 ζ;have ae:=JH (s:=s4H b) ((((J.drop _).drop _).drop _).drop _) 4 ζ;have H:U16 (num (tkB (s2H b).1 2)):=⟨ac.1,by have:=ac.2;show num (tkB (s2H b).1 ((2:Nat):Int))<=65535;omega⟩;have ag:U32 (num (tkB (s3H b).1 4)):=⟨ad.1,by have:=ad.2;show num (tkB (s3H b).1 ((4:Nat):Int))<=4294967295;omega⟩;have af:U32 (num (tkB (s4H b).1 4)):=⟨ae.1,by have:=ae.2;show num (tkB (s4H b).1 ((4:Nat):Int))<=4294967295;omega⟩;have ax:(b.drop 12).length=b.length-12:=Ϣ;unfold mkH;by_cases hx:fH b/16%2=1
    ·have e:yj (fH b) (b.drop 12,0)=(((j9 (fH b%16).toNat (b.drop 12,0)).1,(Qj (j9 (fH b%16).toNat (b.drop 12,0)).2).1.1,(Qj (j9 (fH b%16).toNat (b.drop 12,0)).2).1.2),(Qj (j9 (fH b%16).toNat (b.drop 12,0)).2).2):=by
      unfold yj;rw[ϐ hx]
     rw[e] at d I p2 N ⊢;obtain⟨O,ab⟩:=us (fH b%16).toNat (s:=(b.drop 12,0)) M;have aq:=gN (fH b%16).toNat (b.drop 12,0);have aa:=λh=>Yw (fH b%16).toNat (s:=(b.drop 12,0)) h
     generalize j9 (fH b%16).toNat (b.drop 12,0)=r at *;have ah:=JH (s:=r.2) O 2 ζ;have ar:=JH (s:=tkS r.2 2) (O.drop _) 2 ζ;unfold Qj at d I p2 ⊢;simp only at d I p2 ⊢;obtain⟨ai,au,a3,a4⟩:=Yo (by have:=ar.1;show 0<=4* num (tkB (tkS r.2 2).1 ((2:Nat):Int));omega) d;obtain⟨aj,av,aw,_⟩:=Yo ζ ai;obtain⟨c1,c2,c3,_⟩:=Yo ζ aj;obtain⟨ak,U,Y⟩:=aa c1;simp only at U Y;refine⟨⟨by simp only;omega,H,ag,af,Wz ab,⟨ah.1,by have:=ah.2;show num (tkB r.2.1 ((2:Nat):Int))<=65535;omega⟩,jL ((O.drop _).drop _) _,p2⟩,⟨by simp only;omega,by simp only;omega,by simp only;omega⟩, ?_,H.1,H.2⟩;rw[yq];refine⟨by simp only;omega,by simp only;omega,λc=> ?_,by simp only;omega, ?_⟩
     ·simp only[decide_eq_false_iff_not] at c;exact ϩ hx c
     ·unfold ww;simp only[hx,decide_true,A7];omega
    ·have e:yj (fH b) (b.drop 12,0)=(((j9 (fH b%16).toNat (b.drop 12,0)).1,0,[]),(j9 (fH b%16).toNat (b.drop 12,0)).2):=by
      unfold yj;rw[ώ hx]
     rw[e] at d I p2 N ⊢;obtain⟨O,ab⟩:=us (fH b%16).toNat (s:=(b.drop 12,0)) M;have aq:=gN (fH b%16).toNat (b.drop 12,0);have aa:=λh=>Yw (fH b%16).toNat (s:=(b.drop 12,0)) h
     generalize j9 (fH b%16).toNat (b.drop 12,0)=r at *;simp only at d I p2 ⊢;obtain⟨ak,U,Y⟩:=aa d;simp only at U Y;refine⟨⟨by simp only;omega,H,ag,af,Wz ab,(⟨ζ,ζ⟩:U16 0),xh,p2⟩,⟨by simp only;omega,η,by simp only;omega⟩, ?_,H.1,H.2⟩;rw[yq];refine⟨by simp only;omega,by simp only;omega,λc=>⟨rfl,rfl⟩,η, ?_⟩;unfold ww;simp only[hx,decide_false,Ϭ,C2];omega
def ZM (id:Int) (H:0<=id) (k:Int×Int): ∀(L:List Int) (b:Bk),(∀x∈L,0<=x/\x<6)->(∀x,qh b (x,id)=ϋ∨qh b (x,id)=ϊ 0)->qh (Ji b L id) k=if k.2=id/\k.1∈L then ϊ 0 else qh b k
 | [],b,_,_=>by simp[Ji]
 | x::L,b,hL,hb=>by
  have d: ∀k,qh (vT b (x,id)).1 k=if k=(x,id) then ϊ 0 else qh b k:=by
   intro k;unfold vT;rw[ϐ ⟨(hL x ϛ).1,(hL x ϛ).2,H⟩];rcases hb x with h | h
   ·rw[h];simp only[Option.isSome_none,Ϭ,C2];rw[qF]
   ·rw[h];simp only[N1,A7];split
    ·rename_i e;rw[e,h]
    ·rfl
  have I:=ZM id H k L (vT b (x,id)).1 (λy M=>hL y (ϫ _ M)) (λy=>by
   rw[d];split
   ·exact ϕ rfl
   ·exact hb y)
  unfold Ji at I ⊢;rw[A6,I,d];obtain⟨J,N⟩:=k;by_cases e:N=id<;>by_cases e2:J=x<;>by_cases e3:J∈L<;>simp[e,e2,e3]
  all_goals (simp_all)
def Pa (b:Jb) (n d x:Int):((jP b n d x).2=0->(thJ (jP b n d x).1.holds).Perm (x::thJ b.holds))/\((jP b n d x).2≠0->(jP b n d x).1=b):=by
 unfold jP;split
 ·exact⟨λe=>by simp at e,λ_=>rfl⟩
 ·split
  ·exact⟨λe=>by simp at e,λ_=>rfl⟩
  ·split
   ·exact⟨λe=>by simp at e,λ_=>rfl⟩
   ·refine⟨λ_=> ?_,λe=>ϩ rfl e⟩;simp only;unfold ue thJ;rw[ϻ,Ϟ];refine(List.perm_middle).trans (List.Perm.cons _ ?_);rw[<-ϻ,B6]
def Pb (b:Jb) (n d x:Int):(yY (jP b n d x).2=0↔(jP b n d x).2=0)/\0<=yY (jP b n d x).2/\yY (jP b n d x).2<=8:=by
 unfold jP
 repeat' split
 all_goals (simp[yY])
def DU (s:RmS):Prop:= ∀x sb,qh s.tab.u x=ϊ sb->sb.2.1=ό-> ∃l,qh s.lanes x=ϊ l/\l.gone=ύ/\l.wanted=ό
def mem_prR {d:Sb->Bool} {u:List (Int×Sb)}:x∈prR d u↔x∈subIds/\ ∃sb,qh u x=ϊ sb/\d sb=ό:=by
 unfold prR;rw[I1];refine and_congr Iff.rfl ?_;cases qh u x with
 | none=>simp
 | some sb=>simp
def subIds_iff:x∈subIds↔0<=x/\x<6:=by
 unfold subIds;simp only[Ϯ,R5,or_false];omega
def qR.accept (h:OwO s) (ai:DU s) (o:Og) (p:Pk):OwO (s.accept o p):=by
 unfold RmS.accept;cases ht:qh s.strs o with
 | none=>exact h
 | some t=>
  simp only;have ag: ∀x,qh s.book (x,(s.pks.length:Int))=ϋ:=λx=>by
   cases O:qh s.book (x,(s.pks.length:Int)) with
   | none=>rfl
   | some v=>have:=(h.bel x _ v O).2;omega
  have ah: ∀x∈prR (j8 o.1) s.tab.u,0<=x/\x<6:=λx d=>subIds_iff.1 (mem_prR.1 d).1
  have M:=λk=>ZM (s.pks.length:Int) τ k _ s.book ah (λx=>ϑ (ag x))
  have ac:qR (λ_ i=>i=(s.pks.length:Int)) {s with pks:=s.pks++[⟨o,yV t p.sq,p⟩],book:=Ji s.book (prR (j8 o.1) s.tab.u) s.pks.length}:=by
   refine⟨h.org,h.nd,h.dis,λaa u ak i hi=> ?_,h.sub,λx l U i hi=> ?_,λx i d=> ?_,λx i v N=> ?_⟩
   ·have:=h.few aa u ak i hi;simp only[Ϗ,ϙ,ϧ];omega
   ·obtain⟨a,b,_⟩:=h.owd x l U i hi;have ar:=(h.bel x i 0 a).2;refine⟨?_,b,λe=>by omega⟩;simp only;rw[M,ώ (λc=>by have:=c.1;simp only at this;omega)];exact a
   ·simp only at d ⊢;rw[M] at d;split at d
    ·rename_i I;obtain⟨ae,af⟩:=I;simp only at ae af;obtain⟨ao,al,Y⟩:=(mem_prR.1 af).2;unfold j8 at Y;rw[B4] at Y;obtain⟨l,a,b,c⟩:=ai x ao al Y.1;exact⟨l,a,b,c,ϕ (ϕ ae)⟩
    ·obtain⟨l,a,b,c,H⟩:=h.src x i d;exact⟨l,a,b,c,H.elim ϑ λH=>H.elim (λH=>ϕ (ϑ H)) False.elim⟩
   ·simp only at N ⊢;rw[M] at N;simp only[Ϗ,ϙ,ϧ];split at N
    ·rename_i I;have:=I.1;simp only at this;omega
    ·have:=h.bel x i v N;omega
  have aj: ¬xM s.strs (s.pks.length:Int):=λ⟨aa,u,a,b⟩=>by have:=(h.few aa u a _ b).2;omega
  have ad: ∀x l,qh s.lanes x=ϊ l->(s.pks.length:Int)∉xI l:=λx l U hi=>by
   have:=(h.bel x _ 0 (h.owd x l U _ hi).1).2;omega
  obtain⟨am,an⟩:=Pa t.buf (yV t p.sq) s.clock s.pks.length;obtain⟨ab,ap,aq⟩:=Pb t.buf (yV t p.sq) s.clock s.pks.length;by_cases hf:yY (jP t.buf (yV t p.sq) s.clock s.pks.length).2=0
  ·rw[ϐ hf];exact((ac.grow (t':=Ye t p s.clock s.pks.length) ht (s.pks.length:Int) (am (ab.1 hf)) (by simp only[Ϗ,ϙ,ϧ];omega) aj ad).fin (λy i J _=>J.2 J.1)).same rfl rfl rfl rfl
  ·rw[ώ hf];have O:(Ye t p s.clock s.pks.length).buf.holds=t.buf.holds:=by
    unfold Ye;simp only;rw[an (λe=>hf (ab.2 e))]
   refine((((ac.keep (t':=Ye t p s.clock s.pks.length) ht O).settled (prR (j8 o.1) s.tab.u) (s.pks.length:Int) (yY (jP t.buf (yV t p.sq) s.clock s.pks.length).2) τ (λx d=> ?_) ad)).fin (λy i J _=>J.2 J.1)).same rfl rfl rfl rfl;simp only at d;rw[M] at d;split at d
   ·rename_i I;exact I.2
   ·rw[ag x] at d;cases d
def qR.tell1 (h:qR P s) (x:Int):qR P (s.tell1 x):=by
 unfold RmS.tell1;cases qh s.tab.u x with
 | none=>exact h
 | some sb=>
  simp only;split
  ·cases qh s.lanes x with
   | none=>exact h
   | some l=>
    simp only;split
    ·cases ht:qh s.strs (sb.2.2,l.cur) with
     | none=>exact h
     | some t=>exact h.keep ht rfl
    ·exact h
  ·exact h
def kS {Q:RmS->Prop} (d: ∀s x,Q s->Q (f s x)): ∀(L:List α) (s:RmS),Q s->Q (L.foldl f s)
 | [],_,h=>h
 | x::L,s,h=>kS d L (f s x) (d s x h)
def qR.tell (h:qR P s) (b:List Int):qR P (s.tell b):=by
 unfold RmS.tell;split
 ·refine kS (λs x h=> ?_) _ _ (h.same rfl rfl rfl rfl);unfold RmS.tellS;exact kS (Q:=qR P) (λs x h=>qR.tell1 h x) _ _ h
 ·exact h.same rfl rfl rfl rfl
def qR.read (h:OwO s) (H:DU s):OwO s.read:=by
 unfold RmS.read;cases s.queue with
 | nil=>exact h
 | cons b q=>
  simp only;have d:OwO {s with queue:=q}:=qR.same h rfl rfl rfl rfl;split
  ·exact qR.tell d b
  ·unfold RmS.media;split
   ·cases qh s.tab.o (jl b).1.sc with
    | none=>exact qR.same d rfl rfl rfl rfl
    | some o=>exact qR.accept d H o _
   ·exact qR.same d rfl rfl rfl rfl
def qR.tick (h:qR P s):qR P s.tick.1:=by
 unfold RmS.tick;split
 ·exact h
 ·refine kS (λs o h=> ?_) _ _ (h.same rfl rfl rfl rfl);unfold RmS.tick1;cases ht:qh s.strs o with
  | none=>exact h
  | some t=>
   simp only;split
   ·exact(h.keep (t':={t with asks:=(vU s.cfg.space s.cfg.retry t.asks (s.wants o) s.clock).1}) ht rfl).same rfl rfl rfl rfl
   ·exact h.keep ht rfl
def qR.publish (h:qR P s) (p:Int) (N:0<=p/\p<3) (d: ∀k,qh s.strs (p,k)=ϋ):qR P {s with strs:=qx (qx (qx s.strs (p,0) (uc s.cfg)) (p,1) (uc s.cfg)) (p,2) (uc s.cfg)}:=by
 have H: ∀k,0<=k/\k<3->(p,k)∈orgs:=λk M=>by
  have I:p=0∨p=1∨p=2:=by omega
  have J:k=0∨k=1∨k=2:=by omega
  rcases I with rfl | rfl | rfl<;>rcases J with rfl | rfl | rfl<;>decide
 refine(((h.strNew (H 0 ζ) (d 0) (t':=uc s.cfg) rfl).strNew (H 1 ζ) ?_ (t':=uc s.cfg) rfl).strNew (H 2 ζ) ?_ (t':=uc s.cfg) rfl).same rfl rfl rfl rfl
 ·show qh (qx s.strs (p,0) _) _=ϋ;rw[vF _ _ (λe=>by have:=ϵ Prod.snd e;simp at this)];exact d 1
 ·show qh (qx (qx s.strs (p,0) _) (p,1) _) _=ϋ;rw[vF _ _ (λe=>by have:=ϵ Prod.snd e;simp at this),vF _ _ (λe=>by have:=ϵ Prod.snd e;simp at this)];exact d 2
def qR.join (h:qR P s) (M:x∈subIds) (H:qh s.lanes x=ϋ) (I:1<=l.room) (hi:xI l=[]):qR P {s with lanes:=qx s.lanes x l}:=
 h.endL x (L:=qx s.lanes x l) (b:=s.book) (λy N=>vF _ _ N) (λm d=>by
  rw[xD] at d;injection d with e
  subst e;exact⟨M,I,hi⟩) (λ_ _ _=>rfl) (λi e=>by
  obtain⟨O,a,_⟩:=h.src x i e;rw[H] at a
  cases a) (λi v J=>⟨v,J⟩)
def qR.leave (h:qR P s) (x:Int):qR P {s with lanes:=Yh s.lanes x,book:=vM s.book x 7}:=
 h.endL x (L:=Yh s.lanes x) (b:=vM s.book x 7) (λy d=>by rw[uR,ώ d]) (λm H=>by
  rw[uR,ϐ rfl] at H
  cases H) (λy i d=>XH _ i 7 d) (λi=>VR _ x i ζ) (λi v I=>VQ _ x i 7 v I)
def Xv (l:LnS) (k:Int):xI (jO l k).1=xI l/\(jO l k).1.room=l.room/\(jO l k).1.gone=l.gone/\(l.wanted=ό->(jO l k).1.wanted=ό):=by
 unfold jO;split
 ·exact⟨rfl,rfl,rfl,λe=>e⟩
 ·split
  ·exact⟨rfl,rfl,rfl,λe=>e⟩
  ·exact⟨rfl,rfl,rfl,λ_=>rfl⟩
def qR.wantL (h:qR P s) (M:qh s.lanes x=ϊ l) (k:Int):qR P {s with lanes:=qx s.lanes x (jO l k).1}:=by
 obtain⟨d,H,I,J⟩:=Xv l k;exact h.lane M [] 1 ζ (by rw[d,ε]) H I J
def vJ [DecidableEq K] {k:K} (v:V): ∀{m:List (K×V)},(qh m k).isSome=ό->(qx m k v).length=m.length
 | [],h=>by simp[qh] at h
 | (a,b)::l,h=>by
  unfold qx;unfold qh at h;by_cases e:k=a
  ·rw[ϐ e];rfl
  ·rw[ώ e] at h ⊢;rw[ϙ,vJ v h,ϙ]
def Qz [DecidableEq K] (k:K) (v:V): ∀(m:List (K×V)),(qx m k v).length<=m.length+1
 | []=>by simp[qx]
 | (a,b)::l=>by
  unfold qx;split
  ·simp
  ·have:=Qz k v l;simp only[ϙ];omega
def xm [DecidableEq K] (g:V->α) {m:List (K×V)} {k:K} {u v:V} (h:qh m k=ϊ u) (e:g v=g u) (x:K):(qh (qx m k v) x).map g=(qh m x).map g:=by
 rw[qF];by_cases c:x=k
 ·rw[ϐ c,c,h];exact ϵ ϊ e
 ·rw[ώ c]
def zq (b:Bk) (x id f:Int):(jp b x id f).length=b.length:=by
 unfold jp zi
 repeat' split
 all_goals first | rfl | exact vJ _ (by assumption)
def gW (x f:Int): ∀(E:List Int) (b:Bk),(E.foldl (λb id=>jp b x id f) b).length=b.length
 | [],_=>rfl
 | id::E,b=>by rw[A6,gW x f E,zq]
def vQ (id f:Int): ∀(E:List Int) (b:Bk),(xG b E id f).length=b.length
 | [],_=>rfl
 | x::E,b=>by
  have:=vQ id f E (jp b x id f);unfold xG at this ⊢;rw[A6,this,zq]
structure Loc (s s':RmS):Prop where
 cfg:s'.cfg=s.cfg
 closed:s'.closed=s.closed
 ret:s'.ret=s.ret
 clock:s'.clock=s.clock
 queue:s'.queue=s.queue
 tab:s'.tab=s.tab
 pks:s'.pks=s.pks
 reqs:s'.reqs=s.reqs
 cnt:s'.cnt=s.cnt
 book:s'.book.length=s.book.length
 lanes: ∀x,(qh s'.lanes x).map (λl=>(l.gone,l.wanted,l.W))=(qh s.lanes x).map λl=>(l.gone,l.wanted,l.W)
 strs: ∀o,(qh s'.strs o).map (λt=>(t.any,t.great,t.asks))=(qh s.strs o).map λt=>(t.any,t.great,t.asks)
def Loc.refl (s:RmS):Loc s s:=⟨rfl,rfl,rfl,rfl,rfl,rfl,rfl,rfl,rfl,rfl,λ_=>rfl,λ_=>rfl⟩
def Loc.trans {s'':RmS} (h:Loc s s') (k:Loc s' s''):Loc s s'':=
 ⟨k.cfg.trans h.cfg,k.closed.trans h.closed,k.ret.trans h.ret,k.clock.trans h.clock,k.queue.trans h.queue,k.tab.trans h.tab,k.pks.trans h.pks,k.reqs.trans h.reqs,k.cnt.trans h.cnt,k.book.trans h.book,λx=>(k.lanes x).trans (h.lanes x),λo=>(k.strs o).trans (h.strs o)⟩
def za (d: ∀s x,Loc s (f s x)): ∀(L:List α) (s:RmS),Loc s (L.foldl f s)
 | [],s=>Loc.refl s
 | x::L,s=>(d s x).trans (za d L (f s x))
def Gz (s:RmS) (x:Int):Loc s (s.tell1 x):=by
 unfold RmS.tell1;cases qh s.tab.u x with
 | none=>exact Loc.refl s
 | some sb=>
  simp only;split
  ·cases qh s.lanes x with
   | none=>exact Loc.refl s
   | some l=>
    simp only;split
    ·cases ht:qh s.strs (sb.2.2,l.cur) with
     | none=>exact Loc.refl s
     | some t=>exact⟨rfl,rfl,rfl,rfl,rfl,rfl,rfl,rfl,rfl,rfl,λ_=>rfl,xm _ ht rfl⟩
    ·exact Loc.refl s
  ·exact Loc.refl s
def ko (L:List Int) (s:RmS):Loc s (L.foldl RmS.tellS s):=za (λs _=>za Gz _ s) L s
def ZE (l:LnS) (d:ItS):((xp l d).1.gone,(xp l d).1.wanted,(xp l d).1.W)=(l.gone,l.wanted,l.W):=by
 unfold xp yX
 repeat' split
 all_goals rfl
def Bj (d:ItS) (s:RmS) (x:Int):Loc s (s.put1 d x):=by
 unfold RmS.put1;split
 ·cases hl:qh s.lanes x with
  | none=>exact Loc.refl s
  | some l=>
   simp only;split
   ·exact⟨rfl,rfl,rfl,rfl,rfl,rfl,rfl,rfl,rfl,zq _ _ _ _,xm _ hl (ZE l d),λ_=>rfl⟩
   ·exact⟨rfl,rfl,rfl,rfl,rfl,rfl,rfl,rfl,rfl,rfl,xm _ hl (ZE l d),λ_=>rfl⟩
 ·exact Loc.refl s
def kr (s:RmS):Loc s s.order:=by
 unfold RmS.order;cases s.ready with
 | none=>exact Loc.refl s
 | some o=>
  simp only;cases ht:qh s.strs o with
  | none=>exact Loc.refl s
  | some t=>
   have h:Loc s {s with strs:=qx s.strs o {t with buf:=(yD t.buf s.clock).1}}:=⟨rfl,rfl,rfl,rfl,rfl,rfl,rfl,rfl,rfl,rfl,λ_=>rfl,xm _ ht rfl⟩;exact h.trans (za (Bj _) _ _)
def vu (s:RmS) (x:Int):Loc s (s.choose x):=by
 unfold RmS.choose;cases hl:qh s.lanes x with
 | none=>exact Loc.refl s
 | some l=>
  refine⟨rfl,rfl,rfl,rfl,rfl,rfl,rfl,rfl,rfl, ?_,xm _ hl ?_,λ_=>rfl⟩
  ·simp only;split
   ·exact zq _ _ _ _
   ·rfl
  ·rcases XJ l with ⟨_,e⟩ | ⟨_,x,A,_,_,e⟩<;>rw[e]
def yA (s:RmS) (x:Int):Loc s (s.rewrite x):=by
 unfold RmS.rewrite;cases hl:qh s.lanes x with
 | none=>exact Loc.refl s
 | some l=>
  refine⟨rfl,rfl,rfl,rfl,rfl,rfl,rfl,rfl,rfl, ?_,xm _ hl ?_,λ_=>rfl⟩
  ·simp only;split
   ·exact zq _ _ _ _
   ·rfl
  ·rcases MZ l with ⟨_,e⟩ | ⟨x,f,B,_,e⟩<;>rw[e]
def OM (s:RmS) (w:Og):Loc s (s.drainL w):=by
 unfold RmS.drainL;cases hl:qh s.lanes w.2 with
 | none=>exact Loc.refl s
 | some l=>exact⟨rfl,rfl,rfl,rfl,rfl,rfl,rfl,rfl,rfl,gW _ _ _ _,xm _ hl rfl,λ_=>rfl⟩
def vn (s:RmS) (o:Og):Loc s (s.drainO o):=by
 unfold RmS.drainO;cases ht:qh s.strs o with
 | none=>exact Loc.refl s
 | some t=>
  have h:Loc s {s with strs:=qx s.strs o {t with buf:=vP t.buf}}:=⟨rfl,rfl,rfl,rfl,rfl,rfl,rfl,rfl,rfl,rfl,λ_=>rfl,xm _ ht rfl⟩;exact h.trans (za (f:=RmS.drain1) (λs i=>⟨rfl,rfl,rfl,rfl,rfl,rfl,rfl,rfl,rfl,(vQ i 8 subIds s.book:(xG s.book subIds i 8).length=s.book.length),λ_=>rfl,λ_=>rfl⟩) _ _)
def uu {β:Type} {f:α->β} {b:Option α} (h:a.map f=b.map f) {x:α} (d:a=ϊ x): ∃y,b=ϊ y/\f x=f y:=by
 rw[d] at h;cases b with
 | none=>cases h
 | some y=>exact⟨y,rfl,by injection h⟩
def yt {β:Type} {f:α->β} {b:Option α} (h:a.map f=b.map f):a.isSome=b.isSome:=by
 have:=ϵ Option.isSome h
 simpa using this
structure Gm (s:RmS):Prop where
 keys: ∀x,(qh s.tab.u x).isSome=ό->0<=x/\x<6
 lane: ∀x,(qh s.tab.u x).isSome=(qh s.lanes x).isSome
 act:DU s
 pub: ∀x sb,qh s.tab.u x=ϊ sb->sb.2.1=ό->(qh s.tab.s (sb.2.2,0)).isSome=ό
 str: ∀p n,jj n=ό->(qh s.strs (p,n)).isSome=(qh s.tab.s (p,0)).isSome
 org: ∀x o,qh s.tab.o x=ϊ o->(qh s.strs o).isSome=ό
 src: ∀o v,qh s.tab.s o=ϊ v->0<=v/\v<=4294967295
def Gm.loc (h:Gm s) (d:s'.tab=s.tab) (J: ∀x,(qh s'.lanes x).map (λl=>(l.gone,l.wanted))=(qh s.lanes x).map λl=>(l.gone,l.wanted)) (M: ∀o,(qh s'.strs o).isSome=(qh s.strs o).isSome):Gm s':=by
 refine⟨by rw[d];exact h.keys,λx=>by rw[d,yt (J x)];exact h.lane x,λx U H N=> ?_,by rw[d];exact h.pub,λp n O=>by rw[d,M];exact h.str p n O,λx o I=>by rw[d] at I;rw[M];exact h.org x o I,by rw[d];exact h.src⟩;rw[d] at H;obtain⟨l,a,b,c⟩:=h.act x U H N;obtain⟨l',a',e⟩:=uu (J x).symm a;simp only[C7] at e;exact⟨l',a',by rw[<-e.1];exact b,by rw[<-e.2];exact c⟩
def Loc.tb (h:Loc s s') (k:Gm s):Gm s':=
 k.loc h.tab (λx=>by have:=ϵ (Option.map λp:Bool×Bool×List (Int×List Int)=>(p.1,p.2.1)) (h.lanes x);rw[Option.map_map,Option.map_map] at this;exact this) (λo=>yt (h.strs o))
structure JR (n:Nat) (s:RmS):Prop where
 cfg:xY s.cfg=ό
 malf:0<=s.cnt.malf/\s.cnt.malf<=n
 told:0<=s.cnt.told/\s.cnt.told<=n
 strange:0<=s.cnt.strange/\s.cnt.strange<=n
 acc:s.cnt.acc=s.pks.length
 lost:0<=s.cnt.lost/\s.cnt.lost<=9* n
 pks:s.pks.length<=n
 clock:0<=s.clock/\s.clock<=n
 great: ∀o t,qh s.strs o=ϊ t->t.any=ό->65536<=t.great/\t.great<=65536* (n+2)
 asks: ∀o t,qh s.strs o=ϊ t->0<=t.asks.tries/\t.asks.tries<=9* n/\0<=t.asks.last/\t.asks.last<=n
 queue: ∀b∈s.queue,Byt b/\b.length<=400
 fit:(s.queue.length:Int)<=s.cfg.room
 pkok: ∀a∈s.pks,uf a.pk/\uj a.pk/\jJ a.pk=ό
 few:s.tab.u.length<=n
 wr: ∀x l,qh s.lanes x=ϊ l->l.W.length<=n
 book:s.book.length<=6* n
 reqs:s.reqs.length<=9* n
def JR.up (h:JR n s):JR (n+1) s:=by
 obtain⟨d,ac,ad,ae,O,af,ag,ah,U,H,I,J,M,Y,N,aa,ab⟩:=h;exact⟨d,τ,τ,τ,O,τ,τ,τ,λo t a b=>by have:=U o t a b;omega,λo t a=>by have:=H o t a;omega,I,J,M,τ,λx l a=>by have:=N x l a;omega,τ,τ⟩
def Loc.num (h:Loc s s') (k:JR n s):JR n s':=by
 obtain⟨d,aa,ab,ac,ad,ae,af,ag,ah,H,I,J,M,N,O,U,Y⟩:=k;refine⟨by rw[h.cfg];exact d,by rw[h.cnt];exact aa,by rw[h.cnt];exact ab,by rw[h.cnt];exact ac,by rw[h.cnt,h.pks];exact ad,by rw[h.cnt];exact ae,by rw[h.pks];exact af,by rw[h.clock];exact ag,λo t a b=> ?_,λo t a=> ?_,by rw[h.queue];exact I,by rw[h.queue,h.cfg];exact J,by rw[h.pks];exact M,by rw[h.tab];exact N,λx l a=> ?_,by rw[h.book];exact U,by rw[h.reqs];exact Y⟩
 ·obtain⟨t',e,f⟩:=uu (h.strs o) a;simp only[C7] at f;rw[f.2.1];exact ah o t' e (by rw[<-f.1];exact b)
 ·obtain⟨t',e,f⟩:=uu (h.strs o) a;simp only[C7] at f;rw[f.2.2];exact H o t' e
 ·obtain⟨l',e,f⟩:=uu (h.lanes x) a;simp only[C7] at f;rw[f.2.2];exact O x l' e
structure qV (n:Nat) (s:RmS):Prop where
 ow:OwO s
 tb:Gm s
 num:JR n s
def qV.up (h:qV n s):qV (n+1) s:=⟨h.ow,h.tb,h.num.up⟩
def Loc.ok (h:Loc s s') (k:qV n s) (o:OwO s'):qV n s':=⟨o,h.tb k.tb,h.num k.num⟩
def kF {c:CfR} (h:xY c=ό):(1<=c.room/\c.room<=8)/\Ok c.hold c.wait/\(1<=c.space/\c.space<=c.retry/\c.retry<=1000)/\1<=c.most/\c.most<=10:=by
 unfold xY at h;simp only[B4,B3] at h;exact h
structure Tk (m:Nat) (now:Int) (s s':RmS):Prop where
 cfg:s'.cfg=s.cfg
 queue:s'.queue=s.queue
 tab:s'.tab=s.tab
 pks:s'.pks=s.pks
 cnt:s'.cnt=s.cnt
 book:s'.book=s.book
 lanes:s'.lanes=s.lanes
 clock:s'.clock=s.clock
 reqs:s'.reqs.length<=s.reqs.length+m
 strs: ∀o,(qh s'.strs o).map (λt=>(t.any,t.great))=(qh s.strs o).map λt=>(t.any,t.great)
 asks: ∀o t',qh s'.strs o=ϊ t'-> ∃t,qh s.strs o=ϊ t/\((0<=t.asks.tries->0<=t'.asks.tries)/\t'.asks.tries<=(if 0<=t.asks.tries then t.asks.tries else 0)+m/\(t'.asks.last=t.asks.last∨t'.asks.last=now))
def Ay (s:RmS) (o:Og):Tk 1 s.clock s (s.tick1 o):=by
 have d:Tk 1 s.clock s s:=⟨rfl,rfl,rfl,rfl,rfl,rfl,rfl,rfl,τ,λ_=>rfl,λo t' h=>⟨t',h,λe=>e,by split<;>omega,ϑ rfl⟩⟩;unfold RmS.tick1;cases ht:qh s.strs o with
 | none=>exact d
 | some t=>
  simp only;have key: ∀o2 t',qh (qx s.strs o {t with asks:=(vU s.cfg.space s.cfg.retry t.asks (s.wants o) s.clock).1}) o2=ϊ t'-> ∃t,qh s.strs o2=ϊ t/\((0<=t.asks.tries->0<=t'.asks.tries)/\t'.asks.tries<=(if 0<=t.asks.tries then t.asks.tries else 0)+1/\(t'.asks.last=t.asks.last∨t'.asks.last=s.clock)):=by
   intro o2 t' h;rw[qF] at h;split at h
   ·rename_i e;injection h with e2
    subst e e2;refine⟨t,ht, ?_⟩;simp only;unfold vU uq;split
    ·refine⟨λe=> ?_, ?_,ϑ rfl⟩
     ·simp only;split<;>omega
     ·simp only;split<;>split<;>omega
    ·refine⟨λe=> ?_, ?_,ϕ rfl⟩
     ·simp only;split<;>omega
     ·simp only;split<;>split<;>omega
   ·exact⟨t',h,λe=>e,by split<;>omega,ϑ rfl⟩
  split
  ·exact⟨rfl,rfl,rfl,rfl,rfl,rfl,rfl,rfl,by unfold RmS.request;simp,xm _ ht rfl,key⟩
  ·exact⟨rfl,rfl,rfl,rfl,rfl,rfl,rfl,rfl,η,xm _ ht rfl,key⟩
def ur: ∀(L:List Og) (s:RmS),Tk L.length s.clock s (L.foldl RmS.tick1 s)
 | [],s=>⟨rfl,rfl,rfl,rfl,rfl,rfl,rfl,rfl,η,λ_=>rfl,λo t' h=>⟨t',h,λe=>e,by split<;>omega,ϑ rfl⟩⟩
 | o::L,s=>by
  rw[A6];have h:=Ay s o;have k:=ur L (s.tick1 o);rw[h.clock] at k;refine⟨k.cfg.trans h.cfg,k.queue.trans h.queue,k.tab.trans h.tab,k.pks.trans h.pks,k.cnt.trans h.cnt,k.book.trans h.book,k.lanes.trans h.lanes,by rw[k.clock,h.clock], ?_,λo=>(k.strs o).trans (h.strs o),λo2 t' O=> ?_⟩
  ·have:=k.reqs;have:=h.reqs;rw[ϙ];omega
  ·obtain⟨t1,H,J,c1,d⟩:=k.asks o2 t' O;obtain⟨t0,a0,I,M,N⟩:=h.asks o2 t1 H;refine⟨t0,a0,λe=>J (I e), ?_, ?_⟩
   ·rw[ϙ];split at c1<;>split at M<;>split<;>omega
   ·rcases d with d | d
    ·rw[d];exact N
    ·exact ϕ d
def uC (s:RmS):s.origins.length<=9:=Ϙ (D3 _ _) ζ
def qV.tick (h:qV n s):qV (n+1) s.tick.1:=by
 have J:=h.ow.tick;unfold RmS.tick at J ⊢;split
 ·exact h.up
 ·rename_i an;rw[ώ an] at J;have k:=ur s.origins {s with clock:=s.clock+1};have az:=uC s;obtain⟨af,ar,au,av,al,aw,ax,ay,am,ag,ah,ai,aj,ao,ak,ap,aq⟩:=h.num;simp only at k J ⊢;generalize List.foldl RmS.tick1 {s with clock:=s.clock+1} s.origins=s' at *;have M:=k.cfg;have N:=k.queue;have O:=k.tab;have I:=k.pks;have d:=k.cnt;have Y:=k.book;have U:=k.lanes;have aa:=k.clock;have ae:=k.reqs;simp only at M N O I d Y U aa ae;refine⟨J,h.tb.loc O (λx=>by rw[U]) (λo=>yt (k.strs o)),⟨by rw[M];exact af,by rw[d];omega,by rw[d];omega,by rw[d];omega,by rw[d,I];exact al,by rw[d];omega,by rw[I];omega,by rw[aa];omega,λo t a b=> ?_,λo t a=> ?_,by rw[N];exact ah,by rw[M,N];exact ai,by rw[I];exact aj,by rw[O];omega,λx l a=> ?_,by rw[Y];omega,τ⟩⟩
  ·obtain⟨t',e,f⟩:=uu (k.strs o) a;simp only[C7] at f;have:=am o t' e (by rw[<-f.1];exact b);rw[f.2];omega
  ·obtain⟨t0,a0,ac,ad,H⟩:=k.asks o t a;obtain⟨ab,aA,aB,aC⟩:=ag o t0 a0;rw[ϐ ab] at ad;refine⟨ac ab,τ, ?_⟩;rcases H with H | H<;>rw[H]<;>omega
  ·rw[U] at a;have:=ak x l a;omega
def qV.order (h:qV n s):qV n s.order:=(kr s).ok h (qR.order h.ow λa d=>(h.num.pkok a d).2.2)
def qV.choose (h:qV n s) (x:Int):qV n (s.choose x):=(vu s x).ok h (h.ow.choose x)
def qV.rewrite (h:qV n s) (x:Int):qV n (s.rewrite x):=(yA s x).ok h (h.ow.rewrite x)
def IG (d sq:Int):d-32768<=KH d sq/\KH d sq<=d+32767:=by
 unfold KH ahd;omega
def WS {sq:Int} (d:0<=sq/\sq<=65535) (h:t.any=ό->65536<=t.great/\t.great<=65536* (n+2)):32768<=yV t sq/\yV t sq<=65536* ((n+1:Nat)+2)/\(t.any=ύ->65536<=yV t sq):=by
 unfold yV;cases ha:t.any with
 | true=>
  have:=h ha;have:=IG t.great sq;simp only[A7];refine⟨τ,τ,λe=>(by cases e)⟩
 | false=>
  simp only[Ϭ,C2];refine⟨τ,τ,λ_=>by omega⟩
def Vu (id:Int): ∀(L:List Int) (b:Bk),(Ji b L id).length<=b.length+L.length
 | [],b=>by simp[Ji]
 | x::L,b=>by
  have h:=Vu id L (vT b (x,id)).1;have d:(vT b (x,id)).1.length<=b.length+1:=by
   unfold vT
   repeat' split
   all_goals first | exact Qz _ _ _ | exact K5 _
  unfold Ji at h ⊢;rw[A6,ϙ];omega
def qV.accept (h:qV n s) (o:Og) (p:Pk) (M:uf p/\uj p/\jJ p=ό/\0<=p.sq/\p.sq<=65535):qV (n+1) (s.accept o p):=by
 have J:=qR.accept h.ow h.tb.act o p;unfold RmS.accept at J ⊢;cases ht:qh s.strs o with
 | none=>exact h.up
 | some t=>
  rw[ht] at J;simp only at J ⊢;obtain⟨U,ag,ah,ai,aj,ak,al,am,I,N,Y,aa,ab,ad,ac,ae,af⟩:=h.num;refine⟨J,h.tb.loc rfl (λx=>rfl) (λo2=> ?_),⟨U,by simp only;omega,by simp only;omega,by simp only;omega, ?_,by simp only;omega, ?_,by simp only;omega,λo2 t2 a b=> ?_,λo2 t2 a=> ?_,Y,aa,λa d=> ?_,by simp only;omega,λx l a=> ?_, ?_,by simp only;omega⟩⟩
  ·simp only;rw[qF];split
   ·rename_i e;rw[e,ht];rfl
   ·rfl
  ·simp only[Ϗ,ϙ,ϧ];omega
  ·simp only[Ϗ,ϙ,ϧ];omega
  ·simp only at a;rw[qF] at a;split at a
   ·injection a with e
    subst e;have O:=WS (n:=n) M.2.2.2 (I o t ht);unfold Ye;simp only;split
    ·rename_i H;rcases H with H | H
     ·have:=O.2.2 H;omega
     ·cases d:t.any with
      | true=>have:=I o t ht d;omega
      | false=>have:=O.2.2 d;omega
    ·rename_i H;cases d:t.any with
     | true=>have:=I o t ht d;omega
     | false=>exact ϩ (ϑ d) H
   ·have:=I o2 t2 a b;omega
  ·simp only at a;rw[qF] at a;split at a
   ·injection a with e
    subst e;have:=N o t ht;unfold Ye;simp only;omega
   ·have:=N o2 t2 a;omega
  ·rcases ϯ.1 d with d | d
   ·exact ab a d
   ·rw[C0] at d;subst d;exact⟨M.1,M.2.1,M.2.2.1⟩
  ·have:=ac x l a;omega
  ·have an:(prR (j8 o.1) s.tab.u).length<=6:=by unfold prR;exact Ϙ (D3 _ _) ζ
   have:=Vu s.pks.length (prR (j8 o.1) s.tab.u) s.book;simp only;split
   ·omega
   ·rw[vQ];omega
def qV.read (h:qV n s):qV (n+1) s.read:=by
 have d:=qR.read h.ow h.tb.act;unfold RmS.read at d ⊢;cases hq:s.queue with
 | nil=>exact h.up
 | cons b q=>
  rw[hq] at d;simp only at d ⊢;obtain⟨am,av,aw,ax,ay,az,aA,aB,aC,an,M,N,ao,ap,aq,ar,au⟩:=h.num;have aD:=M b (by rw[hq];exact ϛ);have O:qV n {s with queue:=q}:=⟨h.ow.same rfl rfl rfl rfl,h.tb.loc rfl (λ_=>rfl) (λ_=>rfl),⟨am,av,aw,ax,ay,az,aA,aB,aC,an,λc I=>M c (by rw[hq];exact ϫ _ I),by rw[hq] at N;simp only[ϙ] at N ⊢;omega,ao,ap,aq,ar,au⟩⟩;have H: ∀c:CnR,c.acc=s.cnt.acc->c.lost=s.cnt.lost->(0<=c.malf/\c.malf<=n+1)->(0<=c.told/\c.told<=n+1)->(0<=c.strange/\c.strange<=n+1)->qV (n+1) {s with queue:=q,cnt:=c}:=by
   intro c c1 c2 c3 c4 c5;obtain⟨U,aE,aF,aG,ah,ai,aj,ak,al,Y,aa,ab,ac,ad,ae,af,ag⟩:=O.up.num;exact⟨h.ow.same rfl rfl rfl rfl,h.tb.loc rfl (λ_=>rfl) (λ_=>rfl),⟨U,c3,c4,c5,by simp only;rw[c1];exact ah,by simp only;rw[c2];exact ai,aj,ak,al,Y,aa,ab,ac,ad,ae,af,ag⟩⟩
  split
  ·rename_i I;rw[ϐ I] at d;unfold RmS.tell at d ⊢;split
   ·rename_i J;rw[ϐ J] at d;exact(ko _ _).ok (H {s.cnt with told:=s.cnt.told+1} rfl rfl (by simp only;omega) (by simp only;omega) (by simp only;omega)) d
   ·exact H {s.cnt with malf:=s.cnt.malf+1} rfl rfl (by simp only;omega) (by simp only;omega) (by simp only;omega)
  ·unfold RmS.media;split
   ·rename_i J;cases qh s.tab.o (jl b).1.sc with
    | none=>exact H {s.cnt with strange:=s.cnt.strange+1} rfl rfl (by simp only;omega) (by simp only;omega) (by simp only;omega)
    | some o=>exact O.accept o _ (Xc aD.1 J)
   ·exact H {s.cnt with malf:=s.cnt.malf+1} rfl rfl (by simp only;omega) (by simp only;omega) (by simp only;omega)
def qV.write (h:qV n s) (x:Int) (acc:Bool):qV (n+1) (s.write x acc):=by
 have H:=h.ow.write x acc;unfold RmS.write at H ⊢;cases hl:qh s.lanes x with
 | none=>exact h.up
 | some l=>
  rw[hl] at H;simp only at H ⊢;obtain⟨aE,aL,aM,aN,aO,aP,aQ,aR,aS,aF,aG,aH,aI,M,O,aJ,aK⟩:=h.num;have U: ∀c:Bool,(if c then jp s.book x (qX l acc).2.1 (qX l acc).2.2.1 else s.book).length=s.book.length:=by
   intro c;cases c
   ·rfl
   ·exact zq _ _ _ _
  have ax:=h.ow.sub x l hl;have aT:(qX l acc).1.W.length<=l.W.length+1:=by
   rcases uV l acc with ⟨_,e⟩ | ⟨o,C,ar,⟨I,e⟩ | ⟨_,_,I,e⟩⟩
   ·rw[e];simp
   ·rw[e];simp only;split
    ·simp
    ·omega
   ·rw[e];simp
  have aw:(qX l acc).1.wanted=l.wanted:=by
   rcases uV l acc with ⟨_,e⟩ | ⟨o,C,ar,⟨I,e⟩ | ⟨_,_,I,e⟩⟩<;>rw[e]
  have au:(∀y,(qh (zM s.tab x).1.u y).isSome=(qh s.tab.u y).isSome)/\(zM s.tab x).1.o=s.tab.o/\(zM s.tab x).1.s=s.tab.s/\(∀y d,qh (zM s.tab x).1.u y=ϊ d->d.2.1=ό->y≠x/\qh s.tab.u y=ϊ d)/\(zM s.tab x).1.u.length<=n:=by
   unfold zM;rw[ϐ (subIds_iff.1 ax.1)];split
   ·rename_i J;refine⟨λy=> ?_,rfl,rfl,λy d a b=> ?_, ?_⟩
    ·simp only;rw[qF];split
     ·rename_i e;rw[e];exact J.1.symm
     ·rfl
    ·simp only at a;rw[qF] at a;split at a
     ·injection a with e
      rw[<-e] at b;cases b
     ·rename_i e;exact⟨e,a⟩
    ·simp only;rw[vJ _ J.1];exact M
   ·rename_i J;refine⟨λy=>rfl,rfl,rfl,λy d a b=>⟨λe=> ?_,a⟩,M⟩;rw[e] at a;exact J ⟨by rw[a];rfl,by rw[a];exact b⟩
  have Y: ∀(T:TS) (b:Bk),T.u.length<=n->b.length=s.book.length->JR (n+1) {s with lanes:=qx s.lanes x (qX l acc).1,tab:=T,book:=b}:=by
   intro T b aU I;obtain⟨ad,aj,ak,al,am,an,ao,ap,aq,ae,af,ag,ah,aB,aC,aD,ai⟩:=h.num.up;refine⟨ad,aj,ak,al,am,an,ao,ap,aq,ae,af,ag,ah,by simp only;omega,λy m a=> ?_,by simp only;omega,ai⟩;simp only at a;rw[qF] at a;split at a
   ·injection a with e
    subst e;have:=O x l hl;omega
   ·have:=O y m a;omega
  cases hg:(qX l acc).1.gone with
  | true=>
   rw[hg] at H;simp only[A7] at H ⊢;obtain⟨aa,az,N,ab,aA⟩:=au;refine⟨H,⟨λy ay=>h.tb.keys y (by rw[<-aa];exact ay),λy=> ?_,λy d a b=> ?_,λy d a b=> ?_,λp m av=> ?_,λy o a=> ?_,by simp only;rw[N];exact h.tb.src⟩,Y _ _ aA (by rw[show ∀(m:Bk) a f,(vM m a f).length=m.length from λm a f=>by simp[vM],U])⟩
   ·simp only;rw[aa,h.tb.lane,qF];split
    ·rename_i e;rw[e,hl];rfl
    ·rfl
   ·obtain⟨e,ac⟩:=ab y d a b;obtain⟨m,c1,c2,c3⟩:=h.tb.act y d ac b;exact⟨m,by simp only;rw[qF,ώ e];exact c1,c2,c3⟩
   ·simp only;rw[N];exact h.tb.pub y d (ab y d a b).2 b
   ·simp only;rw[N];exact h.tb.str p m av
   ·simp only at a ⊢;rw[az] at a;exact h.tb.org y o a
  | false=>
   rw[hg] at H;simp only[Ϭ,C2] at H ⊢;refine⟨H,⟨h.tb.keys,λy=> ?_,λy d a b=> ?_,h.tb.pub,h.tb.str,h.tb.org,h.tb.src⟩,Y s.tab _ M (U _)⟩
   ·simp only;rw[h.tb.lane,qF];split
    ·rename_i e;rw[e,hl];rfl
    ·rfl
   ·obtain⟨m,c1,c2,c3⟩:=h.tb.act y d a b;by_cases e:y=x
    ·subst e;rw[hl] at c1;injection c1 with e2
     subst e2;exact⟨(qX l acc).1,by simp only;rw[qF,ϐ rfl],hg,by rw[aw];exact c3⟩
    ·exact⟨m,by simp only;rw[qF,ώ e];exact c1,c2,c3⟩
def qV.ret (h:qV n s) (r:List (Og×Bool)):qV n {s with ret:=r}:=by
 obtain⟨d,aa,ab,ac,ad,ae,af,ag,ah,H,I,J,M,N,O,U,Y⟩:=h.num;exact⟨h.ow.same rfl rfl rfl rfl,h.tb.loc rfl (λ_=>rfl) (λ_=>rfl),⟨d,aa,ab,ac,ad,ae,af,ag,ah,H,I,J,M,N,O,U,Y⟩⟩
def qV.drain (h:qV n s) (w:Og):qV (n+1) (s.drain w):=by
 unfold RmS.drain;split
 ·obtain⟨af,au,av,aw,ax,ay,az,aA,aB,ak,al,am,an,ao,ap,aq,ar⟩:=h.num;have aC:=(kF af).1;obtain⟨d,U,Y,aa,ab,aj,ac,ad,ae,H,ah,ai,I,J,M,N,O⟩:=h.num.up;exact⟨h.ow.same rfl rfl rfl rfl,h.tb.loc rfl (λ_=>rfl) (λ_=>rfl),⟨d,U,Y,aa,ab,by simp only;omega,ac,ad,ae,H,λb ag=>by simp at ag,by simp only[ϧ];omega,I,J,M,N,O⟩⟩
 ·split
  ·exact(za vn _ s).ok h.up (qR.drainOs _ h.ow)
  ·exact(OM s w).ok h.up (h.ow.drainL w)
def qV.endW (h:qV n s) (w:Og):qV (n+1) (s.endW w):=by
 unfold RmS.endW;split
 ·exact(h.drain w).ret _
 ·exact h.drain w
def qV.stepW (h:qV n s) (w:Og) (acc:Bool):qV (n+1) (s.stepW w acc):=by
 unfold RmS.stepW;split
 ·exact h.endW w
 ·split
  ·exact h.read
  ·split
   ·exact h.order.up
   ·split
    ·exact(h.choose w.2).up
    ·split
     ·exact(h.rewrite w.2).up
     ·exact h.write w.2 acc
def qV.pick (h:qV n s) (w:Og) (acc:Bool):qV (n+1) (s.pick w acc).1:=by
 unfold RmS.pick;split
 ·exact h.stepW w acc
 ·exact h.up
def qV.publish (h:qV n s) (p s0 s1 s2:Int) (J: ∀v∈[s0,s1,s2],0<=v/\v<=4294967295):qV (n+1) (s.publish p s0 s1 s2).1:=by
 unfold RmS.publish;split
 ·exact h.up
 ·split
  ·rename_i av;simp only;have H:=av;unfold vA at H;split at H
   ·rename_i N;split at H
    ·simp at H
    ·rename_i ap;split at H
     ·simp at H
     ·rename_i O;split at H
      ·simp at H
      ·rename_i ar;have e:(vA s.tab p s0 s1 s2).1={s.tab with o:=qx (qx (qx s.tab.o s0 (p,0)) s1 (p,1)) s2 (p,2),s:=qx (qx (qx s.tab.s (p,0) s0) (p,1) s1) (p,2) s2}:=by
        unfold vA;rw[ϐ N,ώ ap,ώ O,ώ ar];rfl
       rw[e];have au: ∀k,qh s.strs (p,k)=ϋ:=λk=>by
        cases I:qh s.strs (p,k) with
        | none=>rfl
        | some t=>
         have:=h.tb.str p k (XD (h.ow.org _ t I));rw[I] at this;exact ϩ this.symm O
       have key: ∀(o:Og) {α:Type} {m:List (Og×α)} {a b c:α},(qh (qx (qx (qx m (p,0) a) (p,1) b) (p,2) c) o).isSome=((decide (o=(p,2))||(decide (o=(p,1))||decide (o=(p,0))))||(qh m o).isSome):=by
        intro o α m a b c;rw[qF,qF,qF];by_cases c2:o=(p,2)
        ·rw[ϐ c2,Ϫ c2];rfl
        ·rw[ώ c2,Ϩ c2];by_cases c1:o=(p,1)
         ·rw[ϐ c1,Ϫ c1];rfl
         ·rw[ώ c1,Ϩ c1];by_cases c0:o=(p,0)
          ·rw[ϐ c0,Ϫ c0];rfl
          ·rw[ώ c0,Ϩ c0];rfl
       have M: ∀o t,qh (qx (qx (qx s.strs (p,0) (uc s.cfg)) (p,1) (uc s.cfg)) (p,2) (uc s.cfg)) o=ϊ t->t=uc s.cfg∨qh s.strs o=ϊ t:=by
        intro o t a;rw[qF] at a;split at a
        ·injection a with e;exact ϑ e.symm
        ·rw[qF] at a;split at a
         ·injection a with e;exact ϑ e.symm
         ·rw[qF] at a;split at a
          ·injection a with e;exact ϑ e.symm
          ·exact ϕ a
       obtain⟨U,ah,ai,aj,ak,al,am,an,ao,Y,aa,ab,ac,ad,ae,af,ag⟩:=h.num.up;refine⟨(qR.publish h.ow p N au).same rfl rfl rfl rfl,⟨h.tb.keys,h.tb.lane,h.tb.act,λx aw a b=> ?_,λp2 k I=> ?_,λx o a=> ?_,λo v a=> ?_⟩,⟨U,ah,ai,aj,ak,al,am,an,λo t a b=> ?_,λo t a=> ?_,aa,ab,ac,ad,ae,af,ag⟩⟩
       ·simp only;rw[key,h.tb.pub x aw a b,Bool.or_true]
       ·simp only;rw[key,key];by_cases e2:p2=p
        ·subst e2;have aq:k=0∨k=1∨k=2:=by
          have:=Ϛ I;omega
         rcases aq with rfl | rfl | rfl<;>simp
        ·have d: ∀j i:Int,decide ((p2,j)=(p,i))=ύ:=λj i=>Ϩ λc=>e2 (ϵ Prod.fst c)
         rw[d,d,d,d,d,d,h.tb.str p2 k I]
       ·simp only at a ⊢;rw[key];rw[qF] at a;split at a
        ·injection a with d;rw[<-d];simp
        ·rw[qF] at a;split at a
         ·injection a with d;rw[<-d];simp
         ·rw[qF] at a;split at a
          ·injection a with d;rw[<-d];simp
          ·rw[h.tb.org x o a,Bool.or_true]
       ·simp only at a;rw[qF] at a;split at a
        ·injection a with d;rw[<-d];exact J _ η
        ·rw[qF] at a;split at a
         ·injection a with d;rw[<-d];exact J _ η
         ·rw[qF] at a;split at a
          ·injection a with d;rw[<-d];exact J _ η
          ·exact h.tb.src o v a
       ·rcases M o t a with c | c
        ·rw[c] at b;cases b
        ·exact ao o t c b
       ·rcases M o t a with c | c
        ·rw[c];unfold uc;simp only;omega
        ·exact Y o t c
   ·simp at H
  ·exact h.up
def qV.join (h:qV n s) (x I sq st:Int):qV (n+1) (s.join x I sq st).1:=by
 unfold RmS.join;split
 ·exact h.up
 ·split
  ·rename_i aq;simp only;have H:=aq;unfold yI at H;split at H
   ·rename_i U;split at H
    ·simp at H
    ·rename_i N;have e:(yI s.tab x I).1={s.tab with u:=qx s.tab.u x (I,ύ,0)}:=by
      unfold yI;rw[ϐ U,ώ N]
     rw[e];have O:qh s.tab.u x=ϋ:=by
      cases O:qh s.tab.u x with
      | none=>rfl
      | some v=>rw[O] at N;exact ϩ rfl N
     have M:qh s.lanes x=ϋ:=by
      have:=h.tb.lane x;rw[O] at this;cases M:qh s.lanes x with
      | none=>rfl
      | some l=>rw[M] at this;cases this
     have au:=(kF h.num.cfg).1;have av:=h.num.few;obtain⟨aa,ai,aj,ak,al,am,an,ao,ap,ab,ac,ad,ae,ar,af,ag,ah⟩:=h.num.up;refine⟨(qR.join h.ow (subIds_iff.2 U) M (l:=Vd s.cfg.room.toNat s.cfg.most I sq st) (by show 1<=s.cfg.room.toNat;omega) rfl).same rfl rfl rfl rfl,⟨λy J=> ?_,λy=> ?_,λy Y a b=> ?_,λy Y a b=> ?_,h.tb.str,h.tb.org,h.tb.src⟩,⟨aa,ai,aj,ak,al,am,an,ao,ap,ab,ac,ad,ae, ?_,λy l a=> ?_,ag,ah⟩⟩
     ·simp only at J;rw[qF] at J;split at J
      ·rename_i d;rw[d];exact U
      ·exact h.tb.keys y J
     ·simp only;rw[qF,qF];split
      ·rfl
      ·exact h.tb.lane y
     ·simp only at a ⊢;rw[qF] at a;split at a
      ·injection a with d
       rw[<-d] at b;cases b
      ·rename_i d;rw[qF,ώ d];exact h.tb.act y Y a b
     ·simp only at a;rw[qF] at a;split at a
      ·injection a with d
       rw[<-d] at b;cases b
      ·exact h.tb.pub y Y a b
     ·have:=Qz x (I,ύ,(0:Int)) s.tab.u;simp only;omega
     ·simp only at a;rw[qF] at a;split at a
      ·injection a with d
       subst d;simp[Vd]
      ·exact af y l a
   ·simp at H
  ·exact h.up
def Ee (l:LnS) (k:Int):(jO l k).1.W=l.W:=by
 unfold jO
 repeat' split
 all_goals rfl
def qV.wantL (h:qV n s) (d:qh s.lanes x=ϊ l) (k:Int):qV n {s with lanes:=qx s.lanes x (jO l k).1}:=by
 obtain⟨am,an,aj,ak⟩:=Xv l k;obtain⟨I,ab,ac,ad,ae,af,ag,ah,ai,J,M,N,O,U,H,Y,aa⟩:=h.num;refine⟨qR.wantL h.ow d k,⟨h.tb.keys,λy=> ?_,λy al a b=> ?_,h.tb.pub,h.tb.str,h.tb.org,h.tb.src⟩,⟨I,ab,ac,ad,ae,af,ag,ah,ai,J,M,N,O,U,λy m a=> ?_,Y,aa⟩⟩
 ·simp only;rw[h.tb.lane,qF];split
  ·rename_i e;rw[e,d];rfl
  ·rfl
 ·obtain⟨m,c1,c2,c3⟩:=h.tb.act y al a b;simp only;rw[qF];by_cases e:y=x
  ·subst e;rw[d] at c1;injection c1 with e2
   subst e2;exact⟨_,by rw[ϐ rfl],by rw[aj];exact c2,ak c3⟩
  ·exact⟨m,by rw[ώ e];exact c1,c2,c3⟩
 ·simp only at a;rw[qF] at a;split at a
  ·injection a with e2
   subst e2;rw[Ee];exact H x l d
  ·exact H y m a
def qV.want (h:qV n s) (x k:Int):qV (n+1) (s.want x k).1:=by
 unfold RmS.want;split
 ·exact h.up
 ·split
  ·exact h.up
  ·split
   ·exact h.up
   ·cases hl:qh s.lanes x with
    | none=>exact h.up
    | some l=>exact(h.wantL hl k).up
def qV.subscribe (h:qV n s) (x p k:Int):qV (n+1) (s.subscribe x p k).1:=by
 unfold RmS.subscribe;split
 ·exact h.up
 ·split
  ·exact h.up
  ·rename_i au;split
   ·exact h.up
   ·rename_i J;split
    ·rename_i aw;cases hl:qh s.lanes x with
     | none=>exact h.up
     | some l=>
      simp only;have H:=aw;unfold vL at H;split at H
      ·rename_i Y;split at H
       ·rename_i M;split at H
        ·simp at H
        ·rename_i av;have e:(vL s.tab x p).1={s.tab with u:=qx s.tab.u x (((qh s.tab.u x).getD sb0).1,ό,p)}:=by
          unfold vL;rw[ϐ Y,ϐ M,ώ av]
         rw[e];have U:l.gone=ύ:=by
          unfold JV at J;rw[hl] at J
          simpa using J
         have O:=h.wantL hl k;have aa:(jO l k).1.wanted=ό/\(jO l k).1.gone=ύ:=by
          unfold jO;rw[ώ au,ώ (by rw[U];decide)];exact⟨rfl,U⟩
         obtain⟨ab,ak,al,am,an,ao,ap,aq,ar,ac,ad,ae,af,ag,ah,ai,aj⟩:=O.num.up;refine⟨O.ow.same rfl rfl rfl rfl,⟨λy I=> ?_,λy=> ?_,λy N a b=> ?_,λy N a b=> ?_,h.tb.str,h.tb.org,h.tb.src⟩,⟨ab,ak,al,am,an,ao,ap,aq,ar,ac,ad,ae,af, ?_,ah,ai,aj⟩⟩
         ·simp only at I;rw[qF] at I;split at I
          ·rename_i d;rw[d];exact Y.1
          ·exact h.tb.keys y I
         ·simp only;rw[qF,qF];split
          ·rfl
          ·exact h.tb.lane y
         ·simp only at a ⊢;rw[qF] at a ⊢;split at a
          ·rename_i d;rw[ϐ d];exact⟨_,rfl,aa.2,aa.1⟩
          ·rename_i d;rw[ώ d];exact h.tb.act y N a b
         ·simp only at a ⊢;rw[qF] at a;split at a
          ·injection a with d
           rw[<-d];exact M.2
          ·exact h.tb.pub y N a b
         ·simp only;rw[vJ _ M.1];exact ag
       ·simp at H
      ·simp at H
    ·exact h.up
def ZN [DecidableEq K] (k:K): ∀(m:List (K×V)),(yK m k).length<=m.length
 | []=>by simp[yK]
 | (a,b)::l=>by
  unfold yK;split
  ·simp
  ·have:=ZN k l;simp only[ϙ];omega
def qV.leave (h:qV n s) (I:(s.tab.u.map Prod.fst).Nodup) (x:Int):qV (n+1) (s.leave x).1:=by
 unfold RmS.leave;split
 ·exact h.up
 ·split
  ·rename_i ao;simp only;have H:=ao;unfold zW at H;split at H
   ·rename_i an;split at H
    ·rename_i am;have e:(zW s.tab x).1={s.tab with u:=yK s.tab.u x}:=by
      unfold zW;rw[ϐ an,ϐ am]
     rw[e];have aq:=h.num.few;obtain⟨N,ae,af,ag,ah,ai,aj,ak,al,O,U,Y,aa,ap,ab,ac,ad⟩:=h.num.up;refine⟨(qR.leave h.ow x).same rfl rfl rfl rfl,⟨λy d=> ?_,λy=> ?_,λy J a b=> ?_,λy J a b=> ?_,h.tb.str,h.tb.org,h.tb.src⟩,⟨N,ae,af,ag,ah,ai,aj,ak,al,O,U,Y,aa, ?_,λy l a=> ?_, ?_,ad⟩⟩
     ·simp only at d;rw[gD I] at d;split at d
      ·cases d
      ·exact h.tb.keys y d
     ·simp only;rw[gD I,uR];split
      ·rfl
      ·exact h.tb.lane y
     ·simp only at a ⊢;rw[gD I] at a;split at a
      ·cases a
      ·rename_i M;rw[uR,ώ M];exact h.tb.act y J a b
     ·simp only at a;rw[gD I] at a;split at a
      ·cases a
      ·exact h.tb.pub y J a b
     ·have:=ZN x s.tab.u;simp only;omega
     ·simp only at a;rw[uR] at a;split at a
      ·cases a
      ·exact ab y l a
     ·simp only;rw[show ∀(m:Bk) a f,(vM m a f).length=m.length from λm a f=>by simp[vM]];exact ac
    ·simp at H
   ·simp at H
  ·exact h.up
def qV.arrive (h:qV n s) (ah:Byt b) (ai:b.length<=400):qV (n+1) (s.arrive b).1:=by
 have d:=(kF h.num.cfg).1;have am:=h.num.fit;have al:=h.num.lost;obtain⟨H,aa,ab,ac,ad,aj,ae,af,ag,I,J,ak,M,N,O,U,Y⟩:=h.num.up;unfold RmS.arrive;split
 ·exact h.up
 ·split
  ·refine⟨h.ow.same rfl rfl rfl rfl,h.tb.loc rfl (λ_=>rfl) (λ_=>rfl),⟨H,aa,ab,ac,ad,aj,ae,af,ag,I,λc d=> ?_, ?_,M,N,O,U,Y⟩⟩
   ·rcases ϯ.1 d with d | d
    ·exact J c d
    ·rw[C0] at d;rw[d];exact⟨ah,ai⟩
   ·simp only[Ϗ,ϙ,ϧ];omega
  ·refine⟨h.ow.same rfl rfl rfl rfl,h.tb.loc rfl (λ_=>rfl) (λ_=>rfl),⟨H,aa,ab,ac,ad,by simp only;omega,ae,af,ag,I,λc d=> ?_, ?_,M,N,O,U,Y⟩⟩
   ·rcases ϯ.1 d with d | d
    ·exact J c (List.mem_of_mem_tail d)
    ·rw[C0] at d;rw[d];exact⟨ah,ai⟩
   ·simp only[Ϗ,ϙ,ϧ,List.length_tail];omega
def qV.shut (h:qV n s):qV (n+1) s.shut.1:=by
 unfold RmS.shut;split
 ·exact h.up
 ·obtain⟨d,aa,ab,ac,ad,ae,af,ag,ah,H,I,J,M,N,O,U,Y⟩:=h.num.up;exact⟨h.ow.same rfl rfl rfl rfl,h.tb.loc rfl (λ_=>rfl) (λ_=>rfl),⟨d,aa,ab,ac,ad,ae,af,ag,ah,H,I,J,M,N,O,U,Y⟩⟩
def uQ {c:CfR} (d:xY c=ό):qV 0 (ud c):=by
 have h:=(kF d).1
 refine⟨⟨λo t a=>(by cases a),λo t a=>(by cases a),λo t I t' a=>(by cases a),λo t a=>(by cases a),λx l a=>(by cases a),λx l a=>(by cases a),λx i a=>(by cases a),λx i v a=>(by cases a)⟩,
  ⟨λx a=>(by cases a),λx=>rfl,λx H a=>(by cases a),λx H a=>(by cases a),λp k _=>rfl,λx o a=>(by cases a),λo v a=>(by cases a)⟩,
  ⟨d,by simp[ud],by simp[ud],by simp[ud],rfl,by simp[ud],by simp[ud],by simp[ud],λo t a=>(by cases a),λo t a=>(by cases a),λb a=>(by cases a),by simp only[ud,ϧ];omega,λa b=>(by cases b),by simp[ud],λx l a=>(by cases a),by simp[ud],by simp[ud]⟩⟩
def mem_workers {w:Og}:w∈s.workers↔w=(0,0)∨w=(1,0)∨((w.1=2∨w.1=3∨w.1=4)/\w.2∈subIds/\(qh s.lanes w.2).isSome=ό):=by
 unfold RmS.workers yp RmS.there;obtain⟨a,b⟩:=w;simp only[Ϯ,List.mem_flatMap,I1,B3,R5,or_false,C7];constructor
 ·rintro(h | h | ⟨x,⟨d,I,H⟩,J⟩)
  ·exact ϑ h
  ·exact ϕ (ϑ h)
  ·rcases J with ⟨rfl,rfl⟩ | ⟨rfl,rfl⟩ | ⟨rfl,rfl⟩
   ·exact ϕ (ϕ ⟨ϑ rfl,d,H⟩)
   ·exact ϕ (ϕ ⟨ϕ (ϑ rfl),d,H⟩)
   ·exact ϕ (ϕ ⟨ϕ (ϕ rfl),d,H⟩)
 ·rintro(h | h | ⟨d,I,H⟩)
  ·exact ϑ h
  ·exact ϕ (ϑ h)
  ·refine ϕ (ϕ ⟨b,⟨I,I,H⟩, ?_⟩);rcases d with rfl | rfl | rfl
   ·exact ϑ ⟨rfl,rfl⟩
   ·exact ϕ (ϑ ⟨rfl,rfl⟩)
   ·exact ϕ (ϕ ⟨rfl,rfl⟩)
def Qc (L:List Int): ∀s:RmS,(L.foldl RmS.drain1 s).lanes=s.lanes/\(L.foldl RmS.drain1 s).strs=s.strs:=by
 induction L with
 | nil=>intro s;exact⟨rfl,rfl⟩
 | cons x L ih=>intro s;rw[A6,(ih _).1,(ih _).2];exact⟨rfl,rfl⟩
def QB [DecidableEq K] {k:K}: ∀{m:List (K×V)},k∈m.map Prod.fst-> ∃v,qh m k=ϊ v
 | [],h=>by simp at h
 | (a,b)::l,h=>by
  unfold qh;by_cases e:k=a
  ·exact⟨b,by rw[ϐ e]⟩
  ·rw[ώ e];refine QB ?_;rw[Ϟ] at h;exact(Ϯ.1 h).elim (λc=>ϩ c e) id
def ZS [DecidableEq K] {k:K} {v:V}: ∀{m:List (K×V)},qh m k=ϊ v->k∈m.map Prod.fst
 | [],h=>by simp[qh] at h
 | (a,b)::l,h=>by
  unfold qh at h;rw[Ϟ];by_cases e:k=a
  ·rw[e];exact ϛ
  ·rw[ώ e] at h;exact ϫ _ (ZS h)
structure A22 where
 act:Int
 sub:Int
 pub:Int
 layer:Int
 b:List Int
 w:Og
 acc:Bool
 own:Int
 stamp:Int
 seq:Int
 s0:Int
 s1:Int
 s2:Int
def doR (s:RmS) (a:A22):RmS×Int×Bool:=
 if a.act=0 then ((s.arrive a.b).1,(s.arrive a.b).2,ύ) else if a.act=1 then ((s.pick a.w a.acc).1,0,(s.pick a.w a.acc).2) else if a.act=2 then (s.tick.1,s.tick.2,ύ)
 else if a.act=3 then ((s.publish a.pub a.s0 a.s1 a.s2).1,(s.publish a.pub a.s0 a.s1 a.s2).2,ύ) else if a.act=4 then ((s.join a.sub a.own a.seq a.stamp).1,(s.join a.sub a.own a.seq a.stamp).2,ύ)
 else if a.act=5 then ((s.subscribe a.sub a.pub a.layer).1,(s.subscribe a.sub a.pub a.layer).2,ύ) else if a.act=6 then ((s.want a.sub a.layer).1,(s.want a.sub a.layer).2,ύ)
 else if a.act=7 then ((s.leave a.sub).1,(s.leave a.sub).2,ύ) else if a.act=8 then (s.shut.1,s.shut.2,ύ) else (s,0,ύ)
def KZ (h:qV n s) (J:(s.tab.u.map Prod.fst).Nodup) (a:A22) (d:Byt a.b) (H:a.b.length<=400) (I: ∀v∈[a.s0,a.s1,a.s2],0<=v/\v<=4294967295):qV (n+1) (doR s a).1:=by
 unfold doR;split
 ·exact h.arrive d H
 ·split
  ·exact h.pick _ _
  ·split
   ·exact h.tick
   ·split
    ·exact h.publish _ _ _ _ I
    ·split
     ·exact h.join _ _ _ _
     ·split
      ·exact h.subscribe _ _ _
      ·split
       ·exact h.want _ _
       ·split
        ·exact h.leave J _
        ·split
         ·exact h.shut
         ·exact h.up
def Xn (a:A22) (d:a.act=1):doR s a=((s.pick a.w a.acc).1,0,(s.pick a.w a.acc).2):=by
 unfold doR;rw[ώ τ,ϐ d]
structure BkW (e:Option (Int×Int)) (b b':Bk):Prop where
 keys:b'.map Prod.fst=b.map Prod.fst
 fix: ∀k v,qh b k=ϊ v->v≠0->qh b' k=ϊ v
 rng:(∀k v,qh b k=ϊ v->0<=v/\v<=8)-> ∀k v,qh b' k=ϊ v->0<=v/\v<=8
 sent: ∀k,qh b' k=ϊ 1->qh b k=ϊ 1∨e=ϊ k
 new: ∀k,e=ϊ k->qh b k=ϊ 0/\qh b' k=ϊ 1
def qbc [DecidableEq K]: ∀(a b:List (K×V)),a.map Prod.fst=b.map Prod.fst-> ∀k,(qh a k).isSome=(qh b k).isSome
 | [],[],_,k=>rfl
 | [],_::_,h,_=>by simp at h
 | _::_,[],h,_=>by simp at h
 | (x,u)::a,(y,v)::b,h,k=>by
  rw[Ϟ,Ϟ,N0] at h;obtain⟨d,H⟩:=h;simp only at d;subst d;unfold qh;split
  ·rfl
  ·exact qbc a b H k
def BkW.is {b d:Bk} (h:BkW e b d) (k:Int×Int):(qh d k).isSome=(qh b k).isSome:=qbc d b h.keys k
def BkW.refl (b:Bk):BkW ϋ b b:=⟨rfl,λ_ _ h _=>h,λh=>h,λ_ h=>ϑ h,λ_ h=>by cases h⟩
def BkW.trans {a b c:Bk} (h:BkW e a b) (g:BkW ϋ b c):BkW e a c:=
  ⟨g.keys.trans h.keys,λk v d H=>g.fix k v (h.fix k v d H) H,λI=>g.rng (h.rng I),
   λk d=>(g.sent k d).elim (λH=>h.sent k H) (λH=>by cases H),
   λk d=>⟨(h.new k d).1,g.fix k 1 (h.new k d).2 ζ⟩⟩
def KL [DecidableEq K] (k:K) (v:V): ∀(m:List (K×V)),(qh m k).isSome=ό->(qx m k v).map Prod.fst=m.map Prod.fst
 | [],h=>by cases h
 | (a,u)::m,h=>by
  unfold qh at h;unfold qx;by_cases c:k=a
  ·rw[ϐ c,Ϟ,Ϟ,c]
  ·rw[ώ c] at h ⊢;rw[Ϟ,Ϟ,KL k v m h]
def Q7 (b:Bk) (x i f:Int):(jp b x i f).map Prod.fst=b.map Prod.fst:=by
 unfold jp;split
 ·rename_i h;unfold zi;split
  ·rw[h];simp only[N1,ϣ,A7];exact KL _ _ _ (by rw[h];rfl)
  ·rfl
 ·rfl
def km (b:Bk) (x i f:Int) (J:2<=f/\f<=8):BkW ϋ b (jp b x i f):=by
 have g:=ye b x i f τ;refine⟨Q7 b x i f,λk v d I=> ?_,λH k v d=> ?_,λk d=> ?_,λ_ h=>by cases h⟩
 ·rw[g,ώ (λc=>I (by rw[c.2] at d;injection d with d;exact d.symm))];exact d
 ·rw[g] at d;split at d
  ·injection d with d;omega
  ·exact H k v d
 ·rw[g] at d;split at d
  ·injection d with d;omega
  ·exact ϑ d
def qaS (b:Bk) (x i:Int) (h:qh b (x,i)=ϊ 0):BkW (ϊ (x,i)) b (jp b x i 1):=by
 have g:=ye b x i 1 τ;refine⟨Q7 b x i 1,λk v d J=> ?_,λI k v d=> ?_,λk d=> ?_,λk H=> ?_⟩
 ·rw[g,ώ (λc=>J (by rw[c.2] at d;injection d with d;exact d.symm))];exact d
 ·rw[g] at d;split at d
  ·injection d with d;omega
  ·exact I k v d
 ·rw[g] at d;split at d
  ·rename_i c;exact ϕ (by rw[c.1])
  ·exact ϑ d
 ·injection H with H
  subst H;exact⟨h,by rw[g,ϐ ⟨rfl,h⟩]⟩
def Ll (b:Bk) (x f:Int) (J:2<=f/\f<=8):BkW ϋ b (vM b x f):=by
 have g:=QC b x f;refine⟨?_,λk v d I=> ?_,λH k v d=> ?_,λk d=> ?_,λ_ h=>by cases h⟩
 ·unfold vM;rw[P2];refine I2 λp _=> ?_
  simp only[Function.comp_apply];split<;>rfl
 ·rw[g,d];simp[I]
 ·rw[g] at d;cases hb:qh b k with
  | none=>rw[hb] at d;cases d
  | some u=>
   rw[hb] at d;simp only[C3,G8] at d;have:=H k u hb;split at d<;>omega
 ·rw[g] at d;cases hb:qh b k with
  | none=>rw[hb] at d;cases d
  | some u=>
   rw[hb] at d;simp only[C3,G8] at d;split at d
   ·omega
   ·exact ϑ (by rw[d])
def MF (i f:Int) (d:2<=f/\f<=8): ∀(L:List Int) (b:Bk),BkW ϋ b (xG b L i f)
 | [],b=>BkW.refl b
 | x::L,b=>(km b x i f d).trans (MF i f d L _)
def SM (x f:Int) (d:2<=f/\f<=8): ∀(L:List Int) (b:Bk),BkW ϋ b (L.foldl (λb id=>jp b x id f) b)
 | [],b=>BkW.refl b
 | i::L,b=>(km b x i f d).trans (SM x f d L _)
def qa2 (x:Int) (f:Nat): ∀(n:Nat) (b:Bk),(b.map Prod.fst).Nodup->(∀i v,qh b (x,i)=ϊ v->0<=i/\i<(n:Int))->zL x f b=(((List.range n).countP λi:Nat=>decide (qh b (x,(i:Int))=ϊ (f:Int)):Nat):Int)
 | n,[],_,_=>by
  have:(List.range n).countP (λi:Nat=>decide (qh ([]:Bk) (x,(i:Int))=ϊ (f:Int)))=0:=by
   rw[List.countP_eq_zero];intro a _;simp[qh]
  rw[this];rfl
 | n,(k,v)::b,hn,hb=>by
  rw[Ϟ,D1] at hn;have J:qh b k=ϋ:=by
   cases h:qh b k with
   | none=>rfl
   | some u=>exact(hn.1 (ZS h)).elim
  have O:=qa2 x f n b hn.2 (λi u h=>hb i u (by
   unfold qh;split
   ·rename_i c;rw[c,J] at h;cases h
   ·exact h))
  have M:zL x f ((k,v)::b)=zL x f b+if k.1=x/\v=(f:Int) then 1 else 0:=by
   unfold zL;rw[List.countP_cons];by_cases h:k.1=x/\v=(f:Int)<;>simp[h]
  rw[M,O];by_cases hx:k.1=x
  ·have U:=hb k.2 v (by unfold qh;rw[ϐ (by rw[<-hx])]);obtain⟨j,d⟩: ∃j:Nat,k.2=(j:Int):=⟨k.2.toNat,τ⟩;have N:j<n:=by omega
   have I: ∀i:Nat,decide (qh ((k,v)::b) (x,(i:Int))=ϊ (f:Int))=if i=j then decide (v=(f:Int)) else decide (qh b (x,(i:Int))=ϊ (f:Int)):=λi=>by
    show decide ((if (x,(i:Int))=k then ϊ v else qh b (x,(i:Int)))=ϊ (f:Int))=_;by_cases c:i=j
    ·rw[ϐ c,ϐ (by rw[<-hx,c,<-d])];simp
    ·rw[ώ c,ώ (λH=>c (by rw[<-H] at d;simp only at d;omega))]
   have e0:qh b (x,(j:Int))=ϋ:=by rw[<-hx,<-d];exact J
   have key: ∀m:Nat,(List.range m).countP (λi:Nat=>decide (qh ((k,v)::b) (x,(i:Int))=ϊ (f:Int)))=(List.range m).countP (λi:Nat=>decide (qh b (x,(i:Int))=ϊ (f:Int)))+if j<m/\v=(f:Int) then 1 else 0:=by
    intro m
    induction m with
    | zero=>simp
    | succ m ih2=>
     rw[I0,List.countP_append,List.countP_append,ih2,List.countP_singleton,List.countP_singleton,I];by_cases c:m=j
     ·subst c;rw[ϐ rfl,e0];simp
     ·rw[ώ c];have:(j<m+1/\v=(f:Int))↔(j<m/\v=(f:Int)):=by omega
      simp only[this];omega
   rw[key n];simp only[hx,N,X6];split<;>simp
  ·have I: ∀i:Nat,qh ((k,v)::b) (x,(i:Int))=qh b (x,(i:Int)):=λi=>by
    show (if (x,(i:Int))=k then ϊ v else qh b (x,(i:Int)))=_;rw[ώ (λH=>hx (by rw[<-H]))]
   simp only[I,hx,false_and,C2,Int.add_zero]
def Ho (I:qI w0 w k s F):Calls prog 28 #[γ k.R] w λe w'=>e= .returned (ι s.shut.2)/\qI w0 w' k s.shut.1 F/\qw F w w':=by
 have M:=κ I;obtain⟨vp,ab,d⟩:=I.blk;have U:=β7 d;have aa:=yw d 7;obtain⟨Y,J⟩:=ν (s.closed);rw[J] at U;have O:=κ J;clear J I d;cases Y with
 | true=>
  have H:Hid (s.shut=(s,7)):=κ (by unfold RmS.shut;rw[ϐ O.o]);rw[H.o]
  go_enter func28,ntmps28
  go_wp2;go_ret;exact⟨rfl,M.o,qw.refl _ _⟩
 | false=>
  have H:Hid (s.shut=({s with closed:=ό},0)):=κ (by unfold RmS.shut;rw[ώ (by rw[O.o];decide)]);have N:=κ (M.o.cell 7 (μ ό) (s':={s with closed:=ό}) (λ_ _=>rfl) ⟨rfl,rfl,rfl,rfl,rfl,rfl,rfl,rfl,rfl⟩);rw[H.o]
  go_enter func28,ntmps28
  go_wp2;go_ret;exact⟨rfl,N.o.1,N.o.2⟩
def FF (h:qI w0 w k s F):Calls prog 19 #[γ k.R] w λe w'=>e= .returned (θ #[ι s.cnt.lost,ι s.cnt.malf,ι s.cnt.strange,ι s.cnt.told,ι s.cnt.acc])/\ql w w':=by
 obtain⟨vp,U,H⟩:=h.blk;have d:=κ (qs H (.cells #[ι 0,ι 0,ι 0,ι 0,ι 0] 78));have I:=β16 d.o;have J:=β17 d.o;have M:=β18 d.o;have N:=β19 d.o;have O:=β20 d.o;clear H h
 go_enter func19,ntmps19
 go_wp2
 (refine bodyPost_ret (v:= θ #[ι s.cnt.lost,ι s.cnt.malf,ι s.cnt.strange,ι s.cnt.told,ι s.cnt.acc]) ?rr1 rfl ?_;(case rr1=>(simp[results,results19,go_sem,I])))
 exact⟨rfl,ql.alloc _ _⟩
def Ls {B b:Nat} {m:Bk} (h:jy w B b m) (sub:Int) (O:m.length<=1000000):
  Calls prog 21 #[θ #[γ B],ι sub] w λe w'=>e= .returned (θ (xH sub m))/\ql w w':=by
 have J:=κ ((ql.alloc w (.cells #[γ B] 86)).al (.cells #[ι 0,ι 0,ι 0,ι 0,ι 0,ι 0,ι 0,ι 0,ι 0] 96));have I:=κ (F4 (h.more J.o) sub O);have M:Hid (((w.alloc (.cells #[γ B] 86)).alloc (.cells #[ι 0,ι 0,ι 0,ι 0,ι 0,ι 0,ι 0,ι 0,ι 0] 96)).heap[w.heap.size+1]? =ϊ (.cells #[ι 0,ι 0,ι 0,ι 0,ι 0,ι 0,ι 0,ι 0,ι 0] 96 (0,0))):=κ (qC η);clear h;unfold xH at I ⊢
 go_enter func21,ntmps21
 go_wp2_with (go_at_call 62;(go_call I.o as e ad ⟨rfl,H⟩;have N:=κ (J.o.trans H);have d:=κ (qq H M.o);have z0:=β0 d.o;have U:=β1 d.o;have Y:=β2 d.o;have z3:=β3 d.o;have z4:=β4 d.o;have z5:=β5 d.o;have aa:=β6 d.o;have ab:=β7 d.o;have ac:=β8 d.o;have ae:=yw d.o 0;have af:=yw d.o 1;have ag:=yw d.o 2;have ah:=yw d.o 3;have ai:=yw d.o 4;have aj:=yw d.o 5;have ak:=yw d.o 6;have am:=yw d.o 7;have an:=yw d.o 8;clear H))
 (refine bodyPost_ret (v:= θ (xH sub m)) ?rr2 rfl ?_;(case rr2=>(simp[results,results21,go_sem,z0,U,Y,z3,z4,z5,aa,ab,ac,xH])))
 exact⟨rfl,((((((((N.o.st (Ω _ _) _).st (Ω _ _) _).st (Ω _ _) _).st (Ω _ _) _).st (Ω _ _) _).st (Ω _ _) _).st (Ω _ _) _).st (Ω _ _) _).st (Ω _ _) _⟩
def RmX.laneDel (h:RmX T w0 w k vp vr s F) (m:jk w' k.ML (Value.int .i64) gj (yK k.LA x)) (a:jt (λb=>b=k.ML) w w'):
  qI w0 w' {k with LA:=yK k.LA x} {s with lanes:=Yh s.lanes x} F/\qw F w w':=by
 obtain⟨d,M⟩:=h.all .lns;have J:=M.keys;have I:=h.fresh;obtain⟨y,z⟩:=h.own (t:= .lns) (k':={k with LA:=yK k.LA x}) (vp':=vp) (vr':=vr) (s':={s with lanes:=Yh s.lanes x}) ⟨η,η⟩ (a.mono λb H=>by rw[H];exact d) ⟨(jd I η _).2 (ϑ d),m⟩
  (λu N U y=>by
   cases u<;>first | exact y | exact ϩ rfl N | skip
   rename_i O;unfold RmK.Holds at y ⊢;simp only;rw[gD J,uR];by_cases e:O=x
   ·rw[ϐ e,ϐ e];exact⟨λp l c=>(by cases c),rfl⟩
   ·rw[ώ e,ώ e]
    exact y)
 exact⟨y.at,z⟩
def KK {t:TS} (h:RmX T w0 w k vp vr s F) (b:jq w' k.tb k.ta k.tc k.td t) (a:jt (λx=>x=k.td) w w'):qI w0 w' k {s with tab:=t} F/\qw F w w':=
 h.table b (a.mono λ_ e=>ϕ (ϕ e))
def Lh (ar:qI w0 w k s F) (aj:s.book.length<=900000) (x:Int):
  Calls prog 47 #[γ k.R,ι x] w λe w'=> ∃k',k'.R=k.R/\e= .returned (ι (s.leave x).2)/\qI w0 w' k' (s.leave x).1 F/\qw F w w':=by
 obtain⟨T,vp,aC,aa⟩:=ar;have Y:=κ aa;have ap:=β7 aa.blk;have ay:=β11 aa.blk;obtain⟨aq,ae⟩:=ν (s.closed);rw[ae] at ap;have ab:=κ ae;have an:=κ aj;clear ae aa aj;cases aq with
 | true=>
  have I:Hid (s.leave x=(s,7)):=κ (by unfold RmS.leave;rw[ϐ ab.o]);rw[I.o]
  go_enter func47,ntmps47
  go_wp2;go_ret;exact⟨k,rfl,rfl,Y.o.at,qw.refl _ _⟩
 | false=>
  have U:=κ (qbC Y.o.tab x);obtain⟨ac,d⟩:=ν ((zW s.tab x).2);obtain⟨am,N⟩:=ν ((zW s.tab x).1);rw[d,N] at U;by_cases e0:ac=0
  ·subst e0;have I:Hid (s.leave x=({s with tab:=am,book:=vM s.book x 7,lanes:=Yh s.lanes x},0)):=κ (by unfold RmS.leave;rw[ώ (by rw[ab.o];decide),ϐ d,N]);rw[I.o];clear d N
   go_enter func47,ntmps47
   go_wp2_with (first | (go_at_call 106;(go_call U.o as e w1 ⟨rfl,M,J⟩;have H:=κ (KK Y.o M J);obtain⟨_,_,af⟩:=H.o.1.blk;have ax:=β0 af;clear M J af)) | (go_at_call 107;(go_call LJ H.o.1 x (by have:=an.o;show s.book.length<=1000000;omega) as e w2 ⟨⟨aA,rfl⟩,ad,t2,_⟩;obtain⟨ah,aB,aD,O⟩:=ad;have av:=κ O;have ah:=κ t2;have az:=β12 O.blk;obtain⟨w9,al,ak,ai,_⟩:=O.lnm.drop kE underlying90 x 0;have al: ∀ty,(Builtin.delete_ #[90,3] ty #[.map (ϊ k.ML),ι x]).run prog w2= .ok (.tuple #[]) w9:=λ_=>al;have ag:=κ (O.laneDel ak ai);clear ak ai O t2)))
   go_ret;exact⟨{k with LA:=yK k.LA x},rfl,rfl,ag.o.1,H.o.2.trans (ah.o.trans ag.o.2)⟩
  ·have aw:(ac != 0)=ό:=by simp[e0]
   have I:Hid (s.leave x=(s,ac)):=κ (by unfold RmS.leave;rw[ώ (by rw[ab.o];decide),d,ώ e0])
   have ao:Hid (am=s.tab):=κ (by
    rw[<-N];unfold zW at d ⊢;split
    ·rename_i au;rw[ϐ au] at d;split
     ·rename_i ad;rw[ϐ ad] at d;exact ϩ d.symm e0
     ·rfl
    ·rfl)
   rw[ao.o] at U;rw[I.o];clear d N e0
   go_enter func47,ntmps47
   go_wp2_with (go_at_call 106;(go_call U.o as e w1 ⟨rfl,M,J⟩;have H:=κ (KK Y.o M J);clear M J))
   go_ret;exact⟨k,rfl,rfl,H.o.1,H.o.2⟩
def Ak (h:RmX T w0 w k vp vr s F) {p:Nat} (d:qh s.lanes x=ϊ l) (H:qh k.LA x=ϊ p) (n:Int):
  Calls prog 91 #[γ p,ι n] w λe w'=>e= .returned (ι (jO l n).2)/\qI w0 w' k {s with lanes:=qx s.lanes x (jO l n).1} F/\qw F w w':=by
 obtain⟨p2,I,J⟩:=h.laneAt d;obtain rfl:p2=p:=by rw[H] at I;injection I with e;exact e.symm
 refine(Ed J n).mono ?_;rintro e w' ⟨rfl,b,a⟩;exact⟨rfl,h.lanePut d H b a⟩
def Ms (au:qI w0 w k s F) (aj:zc s) (x n:Int):
  Calls prog 36 #[γ k.R,ι x,ι n] w λe w'=>e= .returned (ι (s.want x n).2)/\qI w0 w' k (s.want x n).1 F/\qw F w w':=by
 obtain⟨T,vp,aB,ab⟩:=au;have d:=κ ab;have am:=κ aj;have aq:=β7 ab.blk;have ax:=β11 ab.blk;obtain⟨ar,ac⟩:=ν (s.closed);rw[ac] at aq;have ag:=κ ac;clear ac ab aj;cases ar with
 | true=>
  have H:Hid (s.want x n=(s,7)):=κ (by unfold RmS.want;rw[ϐ ag.o]);rw[H.o]
  go_enter func36,ntmps36
  go_wp2;go_ret;exact⟨rfl,d.o.at,qw.refl _ _⟩
 | false=>
  have J:Hid (s.want x n=if (decide (0<=x/\x<6)&&jj n)=ύ then (s,1) else if ((qh s.tab.u x).getD sb0).2.1=ύ then (s,5) else (match qh s.lanes x with
   | none=>(s,0)
   | some l=>({s with lanes:=qx s.lanes x (jO l n).1},(jO l n).2))):=κ (by unfold RmS.want;rw[ώ (by rw[ag.o];decide)];rfl)
  obtain⟨aw,af⟩:=ν (jj n);have Y:=κ (λw=>Ub n w);rw[af] at Y J;by_cases h1:x<0
  ·have H:Hid (s.want x n=(s,1)):=κ (by rw[J.o,Ϩ τ,ϐ (by rfl)]);rw[H.o]
   go_enter func36,ntmps36
   go_wp2;go_ret;exact⟨rfl,d.o.at,qw.refl _ _⟩
  ·by_cases h2:x<6
   ·cases aw with
    | false=>
     have H:Hid (s.want x n=(s,1)):=κ (by rw[J.o,N5,ϐ rfl]);rw[H.o];clear af
     go_enter func36,ntmps36
     go_wp2_with (go_at_call 89;(go_call Y.o _ as e w1 ⟨rfl,N⟩;obtain rfl:=N))
     go_ret;exact⟨rfl,d.o.at,qw.refl _ _⟩
    | true=>
     have O:Hid (s.want x n=if ((qh s.tab.u x).getD sb0).2.1=ύ then (s,5) else (match qh s.lanes x with
      | none=>(s,0)
      | some l=>({s with lanes:=qx s.lanes x (jO l n).1},(jO l n).2))):=κ (by rw[J.o,Ϫ τ,ώ ζ])
     have U:=κ (LH d.o.tab x);obtain⟨av,ae⟩:=ν ((qh s.tab.u x).getD sb0);rw[ae] at U O;have an:=κ ae;clear af ae J;obtain⟨s1,s2,aA⟩:=av;simp only at U O;cases s2 with
     | false=>
      have H:Hid (s.want x n=(s,5)):=κ (by rw[O.o,ϐ rfl]);rw[H.o]
      go_enter func36,ntmps36
      go_wp2_with (first | (go_at_call 89;(go_call Y.o _ as e w1 ⟨rfl,N⟩;obtain rfl:=N)) | (go_at_call 90;(go_call U.o as e w2 ⟨rfl,I⟩;have M:=κ I;clear I)))
      go_ret;exact⟨rfl,d.o.at.on M.o,d.o.at.stay M.o⟩
     | true=>
      have ai:(qh s.lanes x).isSome=ό:=by
       rw[<-am.o.lane];have:=an.o;cases hu:qh s.tab.u x with
       | none=>rw[hu] at this;simp only[Option.getD_none] at this;unfold sb0 at this;injection this with _ q;injection q with q _;(try cases q)
       | some y=>rfl
      obtain⟨l,aa⟩:=ϥ.1 ai;obtain⟨p,ad,_⟩:=d.o.laneAt aa;have H:Hid (s.want x n=({s with lanes:=qx s.lanes x (jO l n).1},(jO l n).2)):=κ (by rw[O.o,ώ ζ,aa]);have ao:=κ (λw' (m:ql w w')=>Ak (d.o.on m) aa ad n)
      have al:Hid (∀w',ql w w'->(Instr.lookup 90 (.map (ϊ k.ML)) (ι x) ύ).run prog w'= .ok (γ p) w'):=κ (λw' m=>by
       have:=xq (d.o.lnm.more m) x ύ;rw[ad] at this
       exact this)
      rw[H.o];clear ai aa ad
      go_enter func36,ntmps36
      go_wp2_with (first | (go_at_call 89;(go_call Y.o _ as e w1 ⟨rfl,N⟩;obtain rfl:=N)) | (go_at_call 90;(go_call U.o as e w2 ⟨rfl,I⟩;have M:=κ I;have ay:=β12 (qq I d.o.blk);have az:=al.o _ I;clear I)) | (go_at_call 91;(go_call ao.o _ M.o as e aC ⟨rfl,ah,t3⟩;have ak:=κ ah;have ap:=κ t3;clear ah t3)))
      go_ret;exact⟨rfl,ak.o,(d.o.at.stay M.o).trans ap.o⟩
   ·have H:Hid (s.want x n=(s,1)):=κ (by rw[J.o,Ϩ τ,ϐ (by rfl)]);rw[H.o]
    go_enter func36,ntmps36
    go_wp2;go_ret;exact⟨rfl,d.o.at,qw.refl _ _⟩
def Vr {t:TS} {p:Int} (h: ¬(vL t x p).2=0):(vL t x p).1=t:=by
 unfold vL at h ⊢
 repeat' split
 all_goals first | rfl | skip
 rename_i d H I;rw[ϐ d,ϐ H,ώ I] at h;exact ϩ rfl h
def GC {t:TS} {p:Int} (h:qh t.u x=ϋ): ¬(vL t x p).2=0:=by
 unfold vL;rw[h];split<;>simp
def XM (aJ:qI w0 w k s F) (ax:zc s) (x p n:Int):
  Calls prog 46 #[γ k.R,ι x,ι p,ι n] w λe w'=>e= .returned (ι (s.subscribe x p n).2)/\qI w0 w' k (s.subscribe x p n).1 F/\qw F w w':=by
 obtain⟨T,vp,aQ,ao⟩:=aJ;have d:=κ ao;have aD:=κ ax;have aH:=β7 ao.blk;obtain⟨aI,an⟩:=ν (s.closed);rw[an] at aH;have ae:=κ an;clear an ao ax;cases aI with
 | true=>
  have H:Hid (s.subscribe x p n=(s,7)):=κ (by unfold RmS.subscribe;rw[ϐ ae.o]);rw[H.o]
  go_enter func46,ntmps46
  go_wp2;go_ret;exact⟨rfl,d.o.at,qw.refl _ _⟩
 | false=>
  obtain⟨aL,M⟩:=ν (jj n);have aa:=κ (λw=>Ub n w);rw[M] at aa;cases aL with
  | false=>
   have H:Hid (s.subscribe x p n=(s,1)):=κ (by unfold RmS.subscribe;rw[ώ (by rw[ae.o];decide),ϐ M]);rw[H.o];clear M
   go_enter func46,ntmps46
   go_wp2_with (go_at_call 89;(go_call aa.o _ as e w1 ⟨rfl,O⟩;obtain rfl:=O))
   go_ret;exact⟨rfl,d.o.at,qw.refl _ _⟩
  | true=>
   have aO:=β12 d.o.blk;have q:_:=xq d.o.lnm x ό;simp only[A7] at q;obtain⟨Y,I⟩:=ν ((vL s.tab x p).2);obtain⟨ay,ac⟩:=ν ((vL s.tab x p).1);cases hl:qh s.lanes x with
   | none=>
    have aw:=d.o.laneNo hl;rw[aw] at q
    replace q:(Instr.lookup 90 (.map (ϊ k.ML)) (ι x) ό).run prog w= .ok (.tuple #[π ϋ,ύ]) w:=q
    have am:qh s.tab.u x=ϋ:=by
     have:=aD.o.lane x;rw[hl] at this;cases am:qh s.tab.u x with
     | none=>rfl
     | some y=>rw[am] at this;cases this
    have al:=GC (p:=p) am;have ah:=Vr al
    have H:Hid (s.subscribe x p n=(s,Y)):=κ (by
     unfold RmS.subscribe JV
     rw[ώ (by rw[ae.o];decide),ώ (by rw[M];decide),hl,ώ ζ,ώ al,I])
    have U:=κ (Jf d.o.tab x p);rw[ah,I] at U;have aG:(Y != 0)=ό:=by rw[<-I];simp[al]
    have au:=β11 d.o.blk;rw[H.o];clear M hl aw am al ah I ac
    go_enter func46,ntmps46
    go_wp2_with (first | (go_at_call 89;(go_call aa.o _ as e w1 ⟨rfl,O⟩;obtain rfl:=O)) | (go_at_call 105;(go_call U.o as e w2 ⟨rfl,ar,aq⟩;have ap:=κ (KK d.o ar aq);clear ar aq)))
    go_ret;exact⟨rfl,ap.o.1,ap.o.2⟩
   | some l=>
    obtain⟨aK,ag,ak⟩:=d.o.laneAt hl;rw[ag] at q
    replace q:(Instr.lookup 90 (.map (ϊ k.ML)) (ι x) ό).run prog w= .ok (.tuple #[γ aK,ό]) w:=q
    have ai:=κ (JB ak);have aB:=κ hl;have aC:=κ ag;obtain⟨g,ab⟩:=ν (l.gone);rw[ab] at ai;cases g with
    | true=>
     have H:Hid (s.subscribe x p n=(s,5)):=κ (by
      unfold RmS.subscribe JV
      rw[ώ (by rw[ae.o];decide),ώ (by rw[M];decide),hl,ϐ ab])
     rw[H.o];clear M hl ag ak ab I ac
     go_enter func46,ntmps46
     go_wp2_with (first | (go_at_call 89;(go_call aa.o _ as e w1 ⟨rfl,O⟩;obtain rfl:=O)) | (go_at_call 69;(go_call ai.o as e w2 ⟨rfl,N⟩;have J:=κ N;clear N)))
     go_ret;exact⟨rfl,d.o.at.on J.o,d.o.at.stay J.o⟩
    | false=>
     have U:=κ (λw' (m:ql w w')=>Jf (d.o.tab.more m) x p);have aj:s.subscribe x p n=if Y=0 then ({s with tab:=ay,lanes:=qx s.lanes x (jO l n).1},(jO l n).2) else (s,Y):=by
      unfold RmS.subscribe JV;rw[ώ (by rw[ae.o];decide),ώ (by rw[M];decide),hl];simp only;rw[ώ (by rw[ab];decide),I,ac]
     by_cases e0:Y=0
     ·subst e0;have H:Hid (s.subscribe x p n=({s with tab:=ay,lanes:=qx s.lanes x (jO l n).1},(jO l n).2)):=κ (by rw[aj,ϐ rfl]);rw[I,ac] at U;rw[H.o];clear M hl ag ak ab I ac aj
      go_enter func46,ntmps46
      go_wp2_with (first | (go_at_call 89;(go_call aa.o _ as e w1 ⟨rfl,O⟩;obtain rfl:=O)) | (go_at_call 69;(go_call ai.o as e w2 ⟨rfl,N⟩;have J:=κ N;have au:=β11 (qq N d.o.blk);clear N)) | (go_at_call 105;(go_call U.o _ J.o as e aM ⟨rfl,af,a3⟩;have ad:=κ (KK (d.o.on J.o) af a3);obtain⟨aN,aP,aR,az⟩:=ad.o.1;have aE:=κ (Ak az aB.o aC.o n);clear af a3 az)) | (go_at_call 91;(go_call aE.o as e w4 ⟨rfl,av,t4⟩;have aA:=κ av;have aF:=κ t4;clear av t4)))
      go_ret;exact⟨rfl,aA.o,(d.o.at.stay J.o).trans (ad.o.2.trans aF.o)⟩
     ·have ah:=Vr (t:=s.tab) (x:=x) (p:=p) (by rw[I];exact e0);have H:Hid (s.subscribe x p n=(s,Y)):=κ (by rw[aj,ώ e0]);rw[I,ah] at U;have aG:(Y != 0)=ό:=by simp[e0]
      rw[H.o];clear M hl ag ak ab I ac aj ah e0
      go_enter func46,ntmps46
      go_wp2_with (first | (go_at_call 89;(go_call aa.o _ as e w1 ⟨rfl,O⟩;obtain rfl:=O)) | (go_at_call 69;(go_call ai.o as e w2 ⟨rfl,N⟩;have J:=κ N;have au:=β11 (qq N d.o.blk);clear N)) | (go_at_call 105;(go_call U.o _ J.o as e aM ⟨rfl,af,a3⟩;have ad:=κ (KK (d.o.on J.o) af a3);clear af a3)))
      go_ret;exact⟨rfl,ad.o.1,(d.o.at.stay J.o).trans ad.o.2⟩
end Go.Proofs.YtlmllmonabafjaaGreatDoor
