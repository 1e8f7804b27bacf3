/- x -/
import Derived.Test.YtlmllmonabafjaaGreatDoorMi12
namespace Go.Proofs.YtlmllmonabafjaaGreatDoor
open Option renaming some->ϊ,none->ϋ
open Bool renaming true->ό,false->ύ
open Go.Value renaming bool->μ,slice->δ,pointer->π,agg->θ
open Go.IntKind renaming i64->ι,u8->υ,u16->φ,u32->ω,i32->χ,u64->ψ
open _root_.Go.Proofs.Tryz
set_option linter.all false
set_option maxHeartbeats 8000000
open Go.RowKit
set_option maxRecDepth 100000
variable {s s':RmS} {x:Int} {n:Nat} {l l':LnS} {b:List Int} {α K V:Type} {f:RmS->α->RmS} {F:List Nat} {w w' w0:World} {o:Og} {P P':Int->Int->Prop} {q:List (List Int)} {t' t:zu} {k:RmK} {a:Option α} {vp vr v:Value} {T:Nat->Tg}
def Qy [DecidableEq K] (m:List (K×V)) (k:K) (v u:V):qx (qx m k v) k u=qx m k u:=by
 induction m with
 | nil=>simp[qx]
 | cons p m ih=>
  obtain⟨a,x⟩:=p;by_cases e:k=a
  ·simp[qx,e]
  ·simp[qx,e,ih]
def ZL [DecidableEq K] (m:List (K×V)) (k:K) (v:V) (h:qh m k=ϊ v):qx m k v=m:=by
 induction m with
 | nil=>cases h
 | cons p m ih=>
  obtain⟨a,x⟩:=p;by_cases e:k=a
  ·simp[qh,e] at h;simp[qx,e,h]
  ·simp[qh,e] at h;simp[qx,e,ih h]
def DT (P:Nat->Prop) (vs ve vp:Value) (p:Pk):Prop:=(p.ss≠[]-> ∀g,vs.ownBlock=ϊ g->P g)/\(p.ex≠[]-> ∀g,ve.ownBlock=ϊ g->P g)/\(p.pl≠[]-> ∀g,vp.ownBlock=ϊ g->P g)
def SlI.stay {k:IntKind} {l:List Int} (h:SlI k w v l) (I:l≠[]-> ∀b,v.ownBlock=ϊ b->b∈F) (a:qw F w w'):SlI k w' v l:=by
 obtain⟨N,cap,rfl,d,G,H⟩:=h;refine⟨N,cap,rfl,d,λi hi=> ?_,H⟩;obtain⟨b,O,rfl,M,J⟩:=G i hi;exact⟨b,O,rfl,ϗ M a.1,by rw[World.cell?_of_block (a.2 b (I (λe=>by rw[e] at hi;simp at hi) b rfl))];exact J⟩
def PkS.stay {H G:Value} {p:Pk} (h:PkS w H G vp p) (d:DT (· ∈F) H G vp p) (a:qw F w w'):PkS w' H G vp p:=
 ⟨h.s.stay d.1 a,h.e.stay d.2.1 a,h.l.stay d.2.2 a⟩
section
variable {w0 w w':World} {k:RmK} {s:RmS} {F Fn:List Nat}
def FI (eE:qI w0 w k s (Fn++F)) (ds:zc s) (G o2:Int) (ak:qh s.strs (G,o2)=ϊ t) (p:Pk) (bg be bf:Value) (aV:PkS w bg be bf p)
  (df:DT (· ∈Fn) bg be bf p) (dg: ∀g∈Fn,g∉F) (dq:U16 p.sq) (dl:xz (yV t p.sq)) (ai:t.any=ό->xz t.great) (de:xz s.clock) (fG:s.pks.length<=1000000) (eN:0<=s.cnt.acc/\s.cnt.acc<=1000000000) (dm:Byt p.pl) (dn:p.pl.length<=1000000):
  Calls prog 132 #[γ k.R,θ #[ι G,ι o2],(Γq p bg be bf)] w λe w'=>e= .returned (.tuple #[])/\qI w0 w' k (s.accept (G,o2) p) F/\qw F w w':=by
 obtain⟨w4,bx⟩:=ν (w.alloc (.cells #[ι G,ι o2] 58));obtain⟨W1,bt⟩:=ν (w4.alloc (.cells (Γq p bg be bf) 63));have bA:ql w w4:=by rw[<-bx];exact ql.alloc _ _
 have cr:ql w4 W1:=by rw[<-bt];exact ql.alloc _ _
 have bj:Hid (W1.heap[w.heap.size]? =ϊ (.cells #[ι G,ι o2] 58 (0,0))):=κ (qq cr (by rw[<-bx];exact qj w _));have aK:Hid (W1.heap[w4.heap.size]? =ϊ (.cells (Γq p bg be bf) 63 (0,0))):=κ (by rw[<-bt];exact qj w4 _);have bT:=κ (bA.trans cr);obtain⟨T,vp,fk,h⟩:=eE
 have bY:RmX T w0 W1 k vp fk s ([w.heap.size,w4.heap.size]++(Fn++F)):=h.adds bT.o (λb d=>by
  have eF:=qn bj.o;have eG:=qn aK.o;have:=bA.size;simp at d;rcases d with rfl | rfl
  ·exact⟨ϕ _,eF⟩
  ·exact⟨this,eG⟩)
 have aO:=κ bY;have eo:=κ bA;have eg:Hid (∀b∈Fn,b<w.heap.size):=κ (λb d=>(h.law b (Θ _ d)).2.2);have eq:=κ (h.at.stay bT.o);obtain⟨aa,fp,vb,dp,dv⟩:=bY.strAt ak;have aH:=κ dp;have br:=κ dv;have bM:=κ ak;have el:=κ (aV.keep bT.o);have ar:=κ df;have ee:=κ dg;have bL:=κ ds;have dS:=λ(x:qt W1)=>β13 (qq x.h aO.o.blk)
 have bR:=λ(x:qt W1)=>qq x.h bj.o
 have aM:=λx=>β0 (bR x);have bD:=λx=>β1 (bR x);clear bR
 have dV: ∀x:qt W1,(Instr.lookup 91 (.map (ϊ k.MS)) (θ #[ι G,ι o2]) ύ).run prog x.w'= .ok (γ aa) x.w':=λx=>by
  have:=ya (aO.o.stm.more x.h) (G,o2) ύ;rw[aH.o] at this;exact this
 obtain⟨cu,dt⟩:=ν (t.any);have aI:=κ dt;obtain⟨n,ck⟩:=ν (yV t p.sq);have bn:=κ ck;have bK:=κ dl;have eh:=κ ai;have cM:=κ dq;have ec:=κ de;have cJ:=κ (O1 dm dn);rw[ck] at bK;obtain⟨os,am,rfl,eT⟩:=id aV.s;obtain⟨an,ke,rfl,eO⟩:=id aV.e;obtain⟨af,ae,rfl,eQ⟩:=id aV.l;clear dm dn h bY dp dv ak aV df dg ds dt ck dl ai dq de bA cr eT eO eQ
 go_enter func132,ntmps132
 go_upto_region 1 with fail
 (try rw[bx])
 (try rw[bt])
 clear bx bt;refine qD _ (ql.refl _) ξ ξ ?_
 repeat (go_big_quiet_step (fail))
 refine wpQuiet_nil ?_;intro _ eV;obtain⟨dJ,rfl⟩:=eV;obtain⟨W2,cd⟩:=ν (dJ.w');have aw:Hid (ql W1 W2):=κ (by rw[<-cd];exact dJ.h);rw[cd];clear cd dS aM bD dV;have ct:=β2 (qq aw.o aK.o);have t1:=β1 (qq aw.o br.o.blk);have t2:=β2 (qq aw.o br.o.blk);rw[aI.o] at t1
 go_upto_if 28 with (go_at_call 191;(go_call Wa p.sq cM.o _ as e fV ⟨rfl,ey⟩;obtain rfl:=ey))
 go_cut [7] from 29 (λv ag=>v= ι n/\ql W2 ag)
 case first=>
  cases cu with
  | false=>
   go_wp2;go_meet;exact⟨by rw[<-bn.o];unfold yV;rw[aI.o];rfl,ql.refl _⟩
  | true=>
   have fo:=λ(x:qt W2)=>β2 (qq (aw.o.trans x.h) aK.o)
   have fn:=λ(x:qt W2)=>β2 (qq (aw.o.trans x.h) br.o.blk)
   go_upto_region 4 with fail
   refine Qn W2 9 9 [7] ?_
   refine Qq7 ?_
   (refine Ql ?_;intro K H)
   go_call Wm t.great p.sq (eh.o aI.o) cM.o _ as e w5 ⟨rfl,rfl⟩;refine⟨_,rfl,qk ρ,H _ _ ?_⟩;clear H K
   refine Qq1 ?_
   refine qA ?_;go_wp2;go_meet;exact⟨by rw[<-bn.o];unfold yV;rw[aI.o];rfl,ρ⟩
 case rest=>
 obtain⟨rfl,ay⟩:=hcut;obtain⟨bl,ca⟩:=ν ([w.heap.size,w4.heap.size]++(Fn++F));rw[ca] at aO;have au:=κ ca;have cS:=κ (aO.o.on (aw.o.trans ay));have aP:=κ (br.o.on (aw.o.trans ay));have ep:=κ (aO.o.at.stay (aw.o.trans ay));clear ay ct t1 t2 ca;have t1:=β1 aP.o.blk;have t2:=β2 aP.o.blk;have fE:=yw aP.o.blk 2;rw[aI.o] at t1;obtain⟨c,dd⟩: ∃c:Bool,(!cu||decide (t.great<n))=c:=⟨_,rfl⟩;have bG:=κ dd;clear dd
 go_upto_region 5 with fail
 go_cut [49] from 50 (λv ag=>v= μ c/\ag=wc)
 case first=>
  cases cu with
  | false=>
   go_wp2;go_meet;exact⟨by rw[<-bG.o];rfl,rfl⟩
  | true=>
   go_wp2;go_meet;exact⟨by rw[<-bG.o];rfl,rfl⟩
 case rest=>
 obtain⟨rfl,ez⟩:=hcut;obtain rfl:=ez.symm
 go_upto_if 49 with fail
 obtain⟨fx,eJ⟩:=ν (wc);subst eJ;obtain⟨aT,dk⟩:=ν ((if c then n else t.great));have bJ:=κ dk;clear dk
 go_cut [] from 50 (λag=>qI w0 ag k {s with strs:=qx s.strs (G,o2) {t with great:=aT}} bl/\qw bl wc ag)
 case first=>
  cases c with
  | false=>
   have bH:Hid ({s with strs:=qx s.strs (G,o2) {t with great:=aT}}=s):=κ (by rw[<-bJ.o];show {s with strs:=qx s.strs (G,o2) t}=s;rw[ZL _ _ _ bM.o]);go_wp2;go_meet;exact⟨by rw[bH.o];exact cS.o.at,qw.refl _ _⟩
  | true=>
   have aq:=κ (cS.o.strSet (t':={t with great:=aT}) bM.o aH.o aP.o (jt.set (S:=λb=>b=aa) (jt.refl _ _) (p:=⟨aa,2,ϋ⟩) rfl (ι n)) (qB (qp aP.o.blk 2 _) (by rw[<-bJ.o];rfl)) rfl);go_wp2;go_meet;exact aq.o
 case rest=>
 obtain⟨bZ,bd⟩:=hcut;have cW:=κ (ep.o.trans bd);obtain⟨fw,fQ,fU,cx⟩:=bZ;obtain⟨fc,fq,fL,bu,aY⟩:=cx.strAt (o:=(G,o2)) (xD _ _ _);obtain rfl:aa=fc:=by rw[aH.o] at bu;injection bu
 have eu:=β1 aY.blk;have eA:=yw aY.blk 1;have U:=κ (cx.strSet (t':={t with great:=aT,any:=ό}) (xD _ _ _) bu aY (jt.set (S:=λb=>b=aa) (jt.refl _ _) (p:=⟨aa,1,ϋ⟩) rfl (μ ό)) (qB (qp aY.blk 1 _) rfl) rfl);simp only[Qy] at U;obtain⟨t2,cp⟩: ∃t2:zu,{t with great:=aT,any:=ό}=t2:=⟨_,rfl⟩;have cR:=κ cp;clear bd cx bu aY
 go_upto_region 8 with fail
 obtain⟨W7,ce⟩:=ν (wc.setCell ⟨aa,1,ϋ⟩ (μ ό));rw[ce] at U
 (try rw[ce])
 clear ce eu eA;have dY:Hid (qI w0 W7 k {s with strs:=qx s.strs (G,o2) t2} bl):=κ (by rw[<-cp];exact U.o.1);have aj:=κ (cW.o.trans U.o.2);clear cp U cW;obtain⟨fu,fi,fl,aB⟩:=dY.o;obtain⟨M,_,J,rfl,rfl,_⟩:=(aB.all .pks).1.shape;have bQ:=κ aB;have bX:=β14 aB.blk;clear aB
 go_upto_region 9 with fail
 clear bX;have cK:=κ (el.o.stay (F:=bl) ⟨λI g ai=>by rw[<-au.o];exact ϓ _ (Θ _ (ar.o.1 I g ai)),λI g ai=>by rw[<-au.o];exact ϓ _ (Θ _ (ar.o.2.1 I g ai)),λI g ai=>by rw[<-au.o];exact ϓ _ (Θ _ (ar.o.2.2 I g ai))⟩ aj.o);have ef:Hid (∀b∈Fn,b<w.heap.size):=κ eg.o
 obtain⟨ad,dI,cZ,_⟩:=(bQ.o.sub (F':=[w.heap.size,w4.heap.size]++F) (λb d=>by
  rw[<-au.o];rcases ϡ.1 d with e | e
  ·exact Θ _ e
  ·exact ϓ _ (ϓ _ e))).data (λb=>b∈Fn) (λb d=>by
   obtain⟨fg,ct,fh⟩:=bQ.o.law b (by rw[<-au.o];exact ϓ _ (Θ _ d));refine⟨fg,ct,fh,λeK=> ?_⟩;rcases ϡ.1 eK with e | e
   ·have fW:=ef.o b d;have fX:=eo.o.size;simp at e;omega
   ·exact ee.o b d e)
 have O:=κ dI;have bp:=κ cZ;clear dI cZ bQ;have dM:=κ (aj.o.blk (by rw[<-au.o];simp) bj.o);have dO:=κ (aj.o.blk (by rw[<-au.o];simp) aK.o);obtain⟨_,du⟩:=O.o.all .pks;have aN:=κ du;clear du;have aJ: ¬(δ M s.pks.length J).ownBlock=ϊ k.R:=λe=>by have:=aN.o _ e;rw[(O.o.all .room).1] at this;cases this
 have dy: ¬(δ M s.pks.length J).ownBlock=ϊ w.heap.size:=λe=>by have:=aN.o _ e;rw[(O.o.law w.heap.size η).1] at this;cases this
 have dz: ¬(δ M s.pks.length J).ownBlock=ϊ w4.heap.size:=λe=>by have:=aN.o _ e;rw[(O.o.law w4.heap.size η).1] at this;cases this
 have dT:=λ(x:qz (λb=>(δ M s.pks.length J).ownBlock=ϊ b) W7)=>β14 (x.h.blk O.o.blk aJ)
 have bS:=λ(x:qz (λb=>(δ M s.pks.length J).ownBlock=ϊ b) W7)=>x.h.blk dM.o dy
 have aM:=λx=>β0 (bS x);have bD:=λx=>β1 (bS x);clear bS
 have cF: ∀x:qz (λb=>(δ M s.pks.length J).ownBlock=ϊ b) W7,x.w'.rangeAt w4.heap.size 0 (Γh p os am an ke af ae):=λx=>xy (x.h.blk dO.o dz)
 obtain⟨eZ,hi,eW,eX,eY⟩:=info_parts (P:=prog) (e:=65) (z:= θ #[ι 0,ι 0,ι 0,ύ,υ 0,φ 0,ω 0,ω 0,(),ύ,φ 0,(),()]) (size:=13) (bytes:=120) ξ;refine QN (λb=>(δ M s.pks.length J).ownBlock=ϊ b) W7 13 14 [9,10,11,13] ?_
 refine Qs7 ?_
 refine jh rfl rfl (qi σ) 63 (.tmp 5) rfl w4.heap.size 0 rfl (Γh p os am an ke af ae) _ (λw' Y=>by obtain⟨x,rfl⟩:=Y;exact cF x) underlying63 rfl ξ ?_;intro K H;go_simp;refine H _ ?_;clear H K dT aM bD cF
 refine Qs1 ?_
 (refine Ql ?_;intro K H)
 refine⟨qi (((jt.refl _ W7).drewN 1).alc _),H _ _ ?_⟩;clear H K;have cq: ∀g,(δ M s.pks.length J).ownBlock=ϊ g->ad g= .pks:=aN.o;have dE:=(((O.o.all .pks).1.on (ql.drewN W7 1)).on (ql.alloc _ (.cells (Γi G o2 n p os am an ke af ae) 65))).other (D':=λb=>(ad b≠ .data/\ad b≠ .pks)/\b<W7.heap.size) (λb d=>ϒ d.1);have bB:=(cK.o.keep (ql.drewN W7 1)).keep (ql.alloc _ (.cells (Γi G o2 n p os am an ke af ae) 65));have dD:jw RAc (λb=>((ad b≠ .data/\ad b≠ .pks)/\b<W7.heap.size)∨(δ M s.pks.length J).ownBlock=ϊ b) ((W7.drewN 1).alloc (.cells (Γi G o2 n p os am an ke af ae) 65)) (Γi G o2 n p os am an ke af ae) ⟨(G,o2),n,p⟩:=λw' a=>by
  have cm: ∀g,g∈Fn-> ¬(((ad g≠ .data/\ad g≠ .pks)/\g<W7.heap.size)∨(δ M s.pks.length J).ownBlock=ϊ g):=λg ai Y=>by
   have e:=bp.o g ai;rcases Y with Y | Y
   ·exact Y.1.1 e
   ·rw[cq g Y] at e;cases e
  exact⟨_,_,_,rfl,bB.s.off2 (λI b d=>cm b (ar.o.1 I b d)) a,bB.e.off2 (λI b d=>cm b (ar.o.2.1 I b d)) a,bB.l.off2 (λI b d=>cm b (ar.o.2.2 I b d)) a⟩
 refine jR rfl rfl ?_;intro K H
 refine zK (.tmp 66) (.tmp 71) 92 rfl 0 65 eZ (θ #[ι 0,ι 0,ι 0,ύ,υ 0,φ 0,ω 0,ω 0,(),ύ,φ 0,(),()]) 13 120 underlying92 hi eW eX eY rfl ζ _ s.pks rfl dE W7.heap.size (Γi G o2 n p os am an ke af ae) ⟨(G,o2),n,p⟩ rfl rfl (kX rfl) W5 dD (λb d=>by
  have:=d.2;have:=(((ql.drewN W7 1)).al (.cells (Γi G o2 n p os am an ke af ae) 65)).size
  omega) ζ τ (Ψ _) ?_
 intro fJ w6 cl dj dc;have aC:Hid (jt (λb=>(δ M s.pks.length J).ownBlock=ϊ b) W7 w6):=κ ((((jt.refl _ W7).drewN 1).alc _).trans (jt.of_grown dj));obtain⟨bb,ba,aS,rfl,eR,eS⟩:=cl.shape;have bk:=κ (aC.o.blk O.o.blk aJ);have eI:=O.o.lt;have cy:(ad k.R≠ .data/\ad k.R≠ .pks)/\k.R<W7.heap.size:=⟨by rw[(O.o.all .room).1];exact⟨η,η⟩,eI⟩;have bm:=κ (O.o.pksPut (y:=⟨(G,o2),n,p⟩) ((aC.o.mono (S':=λb=>(δ M s.pks.length J).ownBlock=ϊ b∨b=k.R) (λb d=>ϒ d)).set (p:=⟨k.R,14,ϋ⟩) (ϔ rfl) (δ bb ba aS)) (((ql.drewN W7 1)).al (.cells (Γi G o2 n p os am an ke af ae) 65)).size (cl.step (jt.set (S:=λb=>(ad b≠ .data/\ad b≠ .pks)/\b<W7.heap.size) (jt.refl _ _) (p:=⟨k.R,14,ϋ⟩) cy (δ bb ba aS))) dc (qB (qp bk.o 14 _) rfl));have bX:w6.cell? ⟨k.R,14,ϋ⟩=ϊ (δ M s.pks.length J):=qm bk.o 14 rfl;have eB:w6.frozen? ⟨k.R,14,ϋ⟩=ύ:=yw bk.o 14;clear cl dj dc dE dD bB eR eS;refine⟨qi aC.o,H _ _ ?_⟩;clear H K;go_simp
 (refine Ql ?_;intro K H)
 refine⟨qi aC.o,H _ _ ?_⟩;clear H K
 iterate 1 (refine qE rfl rfl (qi aC.o) ?_;intro K H;go_big_quiet_op;go_big_quiet_on)
 (refine Qe ?_;intro K H)
 refine H _ _ ?_;clear H K;refine qA ?_
 have cH:Hid (SlI .u8 (w6.setCell ⟨k.R,14,ϋ⟩ (δ bb ba aS)) (δ af p.pl.length ae) p.pl):=κ (cK.o.l.off2 (D:=λb=>(δ M s.pks.length J).ownBlock=ϊ b∨b=k.R) (λI b d Y=>by
  have e:=bp.o b (ar.o.2.2 I b d);rcases Y with Y | Y
  ·rw[cq b Y] at e;cases e
  ·rw[Y,(O.o.all .room).1] at e;cases e) ((aC.o.mono (S':=λb=>(δ M s.pks.length J).ownBlock=ϊ b∨b=k.R) (λb d=>ϒ d)).set (p:=⟨k.R,14,ϋ⟩) (ϔ rfl) (δ bb ba aS)))
 have cU:Hid (p.pl≠[]-> ∀b,(δ af p.pl.length ae).ownBlock=ϊ b->b≠k.b/\b≠k.R):=κ (λI b d=>by
  have e:=bp.o b (ar.o.2.2 I b d);refine⟨λx=> ?_,λx=> ?_⟩
  ·rw[x,(O.o.all .book).2.1] at e;cases e
  ·rw[x,(O.o.all .room).1] at e;cases e)
 obtain⟨cX,cf⟩:=ν (w6.setCell ⟨k.R,14,ϋ⟩ (δ bb ba aS));rw[cf] at cH bm
 have bU:Hid (qw ([w.heap.size,w4.heap.size]++F) W1 cX):=κ ((aj.o.sub (λb d=>by
  rw[<-au.o];rcases ϡ.1 d with e | e
  ·exact Θ _ e
  ·exact ϓ _ (ϓ _ e))).trans bm.o.2)
 have cA:=κ bm.o.1;obtain⟨fP,fT,bC⟩:=cA.o.blk;have ex:=β20 bC;have eC:=yw bC 20;obtain⟨fy,fz⟩:=eN;clear bC bX eB aJ dy dz cq bp aN O aC bk bm cy;have aq:=κ (cA.o.cell 20 (ι (s.cnt.acc+1)) (s':={s with strs:=qx s.strs (G,o2) t2,pks:=s.pks++[⟨(G,o2),n,p⟩],cnt:={s.cnt with acc:=s.cnt.acc+1}}) (λ_ _=>rfl) ⟨rfl,rfl,rfl,rfl,rfl,rfl,rfl,rfl,rfl⟩);have cI:=κ (cH.o.off2 (λI b d=>(cU.o I b d).2) (jt.set (S:=λb=>b=k.R) (jt.refl _ _) (p:=⟨k.R,20,ϋ⟩) rfl (ι (s.cnt.acc+1))))
 go_upto_region 10 with fail
 (try rw[cf])
 clear cf
 go_upto_region 11 with fail
 obtain⟨aF,cg⟩:=ν (cX.setCell ⟨k.R,20,ϋ⟩ (ι (s.cnt.acc+1)));rw[cg] at aq cI
 (try rw[cg])
 clear cg ex eC;obtain⟨id,ci⟩: ∃id:Int,(s.pks.length:Int)=id:=⟨_,rfl⟩;have cG:=κ ci
 (try rw[ci])
 clear ci;obtain⟨ao,cb⟩:=ν ([w.heap.size,w4.heap.size]++F);have aD:=κ cb;rw[cb] at aq bU;obtain⟨ac,aX⟩: ∃ac:RmS,{s with strs:=qx s.strs (G,o2) t2,pks:=s.pks++[⟨(G,o2),n,p⟩],cnt:={s.cnt with acc:=s.cnt.acc+1}}=ac:=⟨_,rfl⟩;have em:=κ aX;rw[aX] at aq;have dZ:=κ aq.o.1;have bV:=κ (bU.o.trans aq.o.2);have cO:Hid (zc ac):=κ (by rw[<-aX];exact⟨bL.o.keys,bL.o.lane,bL.o.few⟩);have bN:Hid (ac.tab=s.tab/\ac.book=s.book/\ac.clock=s.clock/\qh ac.strs (G,o2)=ϊ t2):=κ (by rw[<-aX];exact⟨rfl,rfl,rfl,xD _ _ _⟩);clear aX cb aq bU;obtain⟨fs,fN,fR,dG⟩:=dZ.o;have bq:=κ dG;have dN:=κ (bV.o.blk (by rw[<-aD.o];simp) bj.o);have dP:=κ (bV.o.blk (by rw[<-aD.o];simp) aK.o);have dR:=λ(x:qt aF)=>β11 (qq x.h bq.o.blk)
 have aM:=λ(x:qt aF)=>β0 (qq x.h dN.o)
 obtain⟨L,cc⟩:=ν (prR (j8 G) ac.tab.u);have ei:=κ cc;have cQ:=κ (λw m=>Hk (bq.o.tab.more (w':=w) m) G cO.o.keys cO.o.few);rw[cc] at cQ;clear cc dG;refine Qn aF 8 8 [6] ?_
 refine Qq6 ?_
 (refine Ql ?_;intro K H)
 go_call cQ.o _ (ql.drewN aF 1) as e bh ⟨⟨v3,rfl,dF,dx⟩,ay⟩;obtain⟨fH,fD,ap,rfl,fF,dH,dr⟩:=(bq.o.on (ql.drewN aF 1)).ints ay dF dx;have aQ:Hid (ql aF bh):=κ ((ql.drewN aF 1).trans ay);have cN:=κ dr;have dX:=κ dH.at;have er:=κ (bV.o.trans (bq.o.at.stay aQ.o));have ej:=κ (cI.o.keep aQ.o);clear ay dF dx dH dr;refine⟨_,rfl,qk aQ.o,H _ _ ?_⟩;clear H K
 iterate 1 (refine qE rfl rfl (qk aQ.o) ?_;intro K H;go_big_quiet_op;go_big_quiet_on)
 refine qA ?_;clear dR aM;go_wp2
 go_loopw [93] (λaG wr=> ∃j:Nat,j<=L.length/\aG= ι j/\qI w0 wr k {ac with book:=Ji ac.book (L.take j) id} (ap++ao)/\qw (ap++ao) bh wr/\jt (λb=>b=k.b) bh wr) (λaG _=>L.length-(intOf aG).toNat)
 case atStart=>exact⟨0,τ,rfl,dX.o,qw.refl _ _,jt.refl _ _⟩
 case round=>
  obtain⟨j,eP,rfl,aW,ak,da⟩:=hrel;have ah:=κ aW;have av:=κ ak;have cB:=κ da;clear aW ak da;by_cases hlt:j<L.length
  ·have cj:(j:Int)<(L.length:Int):=by omega
   obtain⟨ev,fa,rfl,eM⟩:=cN.o wr (λb d=>av.o.2 b (by simp[d])) j hlt;have bO:Hid (L.take (j+1)=L.take j++[L[j]]):=κ (by rw[A8,ϖ hlt];rfl);generalize L[j]=x at *;obtain⟨fj,fm,aL⟩:=ah.o.blk;have ew:=β0 aL;clear aL
   go_wp2_with (go_at_call 193;(go_call Ns ah.o x id as e cw ⟨⟨fK,rfl⟩,aU,bc,bs⟩;have U:=κ aU;have aj:=κ bc;have dL:=κ bs;clear aU bc bs))
   go_roundw
   case rel=>exact⟨j+1,τ,by go_num,by have:=U.o;unfold Ji at this ⊢;rw[bO.o,Φ];exact this,av.o.trans aj.o,cB.o.trans dL.o⟩
   case measure=>simp[intOf];omega
  ·obtain rfl:j=L.length:=by omega
   have cj: ¬(L.length:Int)<(L.length:Int):=by omega
   rw[ϱ] at ah;have dQ:=κ (β9 (av.o.blk (b:=w4.heap.size) (by simp[<-aD.o]) (qq aQ.o dP.o)));have ff:=dQ.o;have ek:=κ (ej.o.off2 (λI b d=>(cU.o I b d).1) cB.o);obtain⟨cY,ch⟩:=ν (zJ p.pl);have cC:=κ (Jg _ p.pl wr ek.o cJ.o.1 cJ.o.2);rw[ch] at cC;have eb:=κ ch;clear ch
   go_upto_if 109 with (go_at_call 134;(go_call cC.o as e cw ⟨rfl,dw⟩;have cT:=κ dw;clear dw))
   have U:=κ (ah.o.on cT.o);have es:=κ (av.o.trans (ah.o.stay cT.o));obtain⟨N,bw⟩: ∃N:RmS,{ac with book:=Ji ac.book L id}=N:=⟨_,rfl⟩;have en:=κ bw;rw[bw] at U;have bo:Hid (qh N.strs (G,o2)=ϊ t2/\N.clock=s.clock):=κ (by rw[<-bw];exact⟨bN.o.2.2.2,bN.o.2.2.1⟩);obtain⟨aR,db⟩:=ν ((if cY then ύ else t2.askedOf));have bF:=κ db;obtain⟨aj,fi,fl,aB⟩:=U.o;obtain⟨fd,fr,fM,bv,aZ⟩:=aB.strAt bo.o.1;obtain rfl:aa=fd:=by rw[aH.o] at bv;injection bv
   have fb:=β7 aZ.blk;have eD:=yw aZ.blk 7;have ea:=κ (aB.strSet (t':={t2 with askedOf:=ύ}) bo.o.1 bv aZ (jt.set (S:=λb=>b=aa) (jt.refl _ _) (p:=⟨aa,7,ϋ⟩) rfl (μ ύ)) (qB (qp aZ.blk 7 _) rfl) rfl);clear bw db aB bv aZ ff
   go_cut [] from 110 (λag=>qI w0 ag k {N with strs:=qx N.strs (G,o2) {t2 with askedOf:=aR}} (ap++ao)/\qw (ap++ao) cw ag)
   case first=>
    cases cY with
    | false=>
     have bH:Hid ({N with strs:=qx N.strs (G,o2) {t2 with askedOf:=aR}}=N):=κ (by rw[<-bF.o];show {N with strs:=qx N.strs (G,o2) t2}=N;rw[ZL _ _ _ bo.o.1]);go_wp2;go_meet;exact⟨by rw[bH.o];exact U.o,qw.refl _ _⟩
    | true=>
     obtain rfl:ύ=aR:=bF.o;go_wp2;go_meet;exact ea.o
   case rest=>
   obtain⟨bZ,bd⟩:=hcut;have et:=κ (es.o.trans bd);obtain⟨ft,fO,fS,bi⟩:=bZ;have bP:=κ bi;obtain⟨fe,ax,aA,cn,bz⟩:=bi.strAt (o:=(G,o2)) (xD _ _ _);obtain rfl:aa=fe:=by rw[aH.o] at cn;injection cn
   have aE:=κ bz;have dA:k.R≠ax:=λe=>by have:=bz.nb;rw[<-e,(bi.all .room).1] at this;cases this
   have dB: ¬aA.ownBlock=ϊ k.R:=λe=>by have:=(bz.nv _ e).1;rw[(bi.all .room).1] at this;cases this
   have aJ: ¬(k.R=ax∨aA.ownBlock=ϊ k.R):=λe=>e.elim dA dB
   have dC: ¬(aa=ax∨aA.ownBlock=ϊ aa):=λe=>e.elim (λe=>aE.o.ne e) (λe=>(aE.o.nv _ e).2 rfl)
   have ed:Hid (N.clock=s.clock):=κ bo.o.2;have dU: ∀x:qz (λb=>b=ax∨aA.ownBlock=ϊ b) wc,x.w'.cell? ⟨k.R,9,ϋ⟩=ϊ (ι s.clock):=λx=>by rw[<-ed.o];exact qm (x.h.blk bP.o.blk aJ) 9 rfl
   have dW:=λ(x:qz (λb=>b=ax∨aA.ownBlock=ϊ b) wc)=>β0 (x.h.blk aE.o.blk dC)
   clear bd bi cn bz fb eD dA dB;obtain⟨ab,dh⟩:=ν ((jP t2.buf n s.clock id).2);have cD:=κ dh;clear dh
   go_upto_region 20 with fail
   refine QN (λb=>b=ax∨aA.ownBlock=ϊ b) wc 11 11 [10] ?_
   refine Nx ?_
   (refine Ql ?_;intro K H)
   have cL:=κ (CG t2.buf aE.o.ok ax aA n s.clock id bK.o _ (aE.o.buf.on (ql.drewN wc 1)));rw[cD.o] at cL
   (with_reducible refine cL.o.mono ?_)
   rintro e cv ⟨rfl,fI,st⟩;have dK:Hid (jt (λb=>b=ax∨aA.ownBlock=ϊ b) wc cv):=κ (((jt.refl _ wc).drewN 1).trans st.away);have bE:=κ ((bP.o.on (ql.drewN wc 1)).strBuf (xD _ _ _) aH.o (aE.o.on (ql.drewN wc 1)) st (Eu aE.o.ok bK.o ec.o));simp only[Qy] at bE;have cV:=κ (et.o.trans ((bP.o.at.stay (ql.drewN wc 1)).trans bE.o.2));clear st;refine⟨_,rfl,qi dK.o,H _ _ ?_⟩;clear H K dU dW aJ dC;refine qA ?_;obtain⟨az,co⟩: ∃az:RmS,{N with strs:=qx N.strs (G,o2) {t2 with buf:=(jP t2.buf n s.clock id).1,askedOf:=aR}}=az:=⟨_,rfl⟩
   have cE:Hid (∀bW,(if yY ab=0 then az.book else xG az.book L id (yY ab))=bW->s.accept (G,o2) p={az with book:=bW}):=κ (by
    intro bW eL;have eU:Ye t p s.clock s.pks.length={t2 with buf:=(jP t2.buf n s.clock id).1,askedOf:=aR}:=by
     unfold Ye;rw[bn.o,<-bF.o,<-cR.o,<-eb.o,<-cG.o,<-bJ.o,<-bG.o,<-aI.o];cases t.any<;>simp
    have d:t2.buf=t.buf:=by rw[<-cR.o]
    have eH:prR (j8 G) s.tab.u=L:=by rw[<-ei.o,bN.o.1]
    rw[<-eL,<-co,<-en.o,<-em.o];unfold RmS.accept;rw[bM.o];simp only[Qy]
    rw[eU,bn.o,eH,cG.o,<-d,cD.o])
   have cP:Hid (∀w',qw (ap++ao) bh w'->qw F w w'):=κ (λw' h=>(eq.o.sub (F':=F) (λb d=>ϓ _ d)).trans (((er.o.sub (F':=F) (λb d=>by rw[<-aD.o];exact ϓ _ d))).trans (h.sub (λb d=>by rw[<-aD.o];simp[d]))));have cz:Hid (qI w0 cv k az (ap++ao)):=κ (by rw[<-co];exact bE.o.1);clear co
   go_upto_block 2 with fail
   go_cut [12] from 124 to 129 (λv ag=>v= ι (yY ab)/\yY ab≠0/\ag=cv)
   case first=>
    by_cases e10:ab=10
    ·subst e10;go_wp2;go_meet;exact⟨rfl,ζ,rfl⟩
    ·by_cases e9:ab=9
     ·subst e9;go_wp2;go_meet;exact⟨rfl,ζ,rfl⟩
     ·by_cases e8:ab=8
      ·subst e8;go_wp2;go_meet;exact⟨rfl,ζ,rfl⟩
      ·have fA:(ab==10)=ύ:=by simp[e10]
       have fC:(ab==9)=ύ:=by simp[e9]
       have fB:(ab==8)=ύ:=by simp[e8]
       have bI:Hid (yY ab=0):=κ (by unfold yY;rw[ώ e10,ώ e9,ώ e8]);clear e10 e9 e8;go_wp2
       (refine bodyPost_ret (v:= .tuple #[]) ?re2 rfl ?_;(case re2=>simp[results,results132,go_sem]))
       exact⟨rfl,by rw[cE.o _ rfl,ϐ bI.o];exact(cz.o.sub (λb d=>ϓ _ d)).sub (λb d=>by rw[<-aD.o];exact ϓ _ d),cP.o _ cV.o⟩
   case rest=>
   obtain⟨rfl,di,rfl⟩:=hcut;have bI:=κ di;clear di;generalize yY ab=fv at *;go_wp2
   go_loopw [132] (λaG wr=> ∃j:Nat,j<=L.length/\aG= ι j/\qI w0 wr k {az with book:=xG az.book (L.take j) id fv} (ap++ao)/\qw (ap++ao) bh wr) (λaG _=>L.length-(intOf aG).toNat)
   case atStart=>exact⟨0,τ,rfl,cz.o,cV.o⟩
   case round=>
    obtain⟨j,eP,rfl,aW,ak⟩:=hrel;have ah:=κ aW;have av:=κ ak;clear aW ak;by_cases hlt:j<L.length
    ·have cj:(j:Int)<(L.length:Int):=by omega
     obtain⟨ev,fa,rfl,eM⟩:=cN.o wr (λb d=>av.o.2 b (by simp[d])) j hlt;have bO:Hid (L.take (j+1)=L.take j++[L[j]]):=κ (by rw[A8,ϖ hlt];rfl);generalize L[j]=x at *;obtain⟨fj,fm,aL⟩:=ah.o.blk;have ew:=β0 aL;clear aL
     go_wp2_with (go_at_call 122;(go_call Xt ah.o x id fv as e cw ⟨rfl,aU,bc,bs⟩;have U:=κ aU;have aj:=κ bc;clear aU bc bs))
     go_roundw
     case rel=>exact⟨j+1,τ,by go_num,by have:=U.o;unfold xG at this ⊢;rw[bO.o,Φ];exact this,av.o.trans aj.o⟩
     case measure=>simp[intOf];omega
    ·obtain rfl:j=L.length:=by omega
     have cj: ¬(L.length:Int)<(L.length:Int):=by omega
     rw[ϱ] at ah;go_wp2
     (refine bodyPost_end (v:= .tuple #[]) ?re1 rfl ?_;(case re1=>simp[results,results132,go_sem]))
     exact⟨rfl,by rw[cE.o _ rfl,ώ bI.o];exact(ah.o.sub (λb d=>ϓ _ d)).sub (λb d=>by rw[<-aD.o];exact ϓ _ d),cP.o _ av.o⟩
end
def SmS (s:RdS):Prop:=Byt s.1/\s.1.length<=200
def SmS.tk {s:RdS} (h:SmS s) (n:Int):SmS (tkS s n):=⟨h.1.drop _,Ϙ (uN s n) h.2⟩
def SmS.wr {s:RdS} (h:SmS s) (x:Int):SmS (wrS s x):=⟨by unfold wrS;split;exact h.1;exact xh,Ϙ (vH s x) h.2⟩
def SmS.ss: ∀(n:Nat) {s:RdS},SmS s->SmS (j9 n s).2
 | 0,_,h=>h
 | n+1,_,h=>(SmS.ss n h).tk 4
def Kh (M:Byt b) (N: ¬(200:Int)<b.length):U16 (jl b).1.sq/\Byt (jl b).1.pl/\(jl b).1.pl.length<=200:=by
 have G:SmS (b,0):=⟨M,by show b.length<=200;omega⟩;have I:SmS (s5H b):=((((G.tk 1).tk 1).tk 2).tk 4).tk 4;have J:SmS (yy (fH b) (s5H b)):=by
  unfold yy;split
  ·exact I.wr 2
  ·exact I
 have d:SmS (yj (fH b) (yy (fH b) (s5H b))).2:=by
  unfold yj;split
  ·exact(((SmS.ss _ J).tk 2).tk 2).tk _
  ·exact SmS.ss _ J
 unfold jl;rw[ώ N];unfold JJ;split
 ·refine⟨?_, ?_⟩
  ·have H:=JH (s:=s2H b) ((G.tk 1).tk 1).1 2 ζ;exact⟨H.1,by have:=H.2;show num (tkB (s2H b).1 ((2:Nat):Int))<=65535;omega⟩
  ·show Byt (vB _ _).1/\(vB _ _).1.length<=200;unfold vB;split
   ·exact⟨xh,η⟩
   ·split
    ·split
     ·unfold xL;split
      ·exact⟨xh,η⟩
      ·split
       ·exact⟨xh,η⟩
       ·exact⟨d.1.take _,by simp only[Ϡ];have:=d.2;omega⟩
     ·exact⟨xh,η⟩
    ·exact d
 ·exact⟨⟨P4 0,by show (0:Int)<=65535;omega⟩,xh,Ψ _⟩
def IR (b:List Int):Zd b=Ve b:=by
 unfold Zd Ve;rw[Bool.and_assoc]
def My (h:RmX T w0 w k vp vr s F) (ah:s.queue=b::q):
  Calls prog 128 #[γ k.RQ] w λe w'=> ∃d G,e= .returned (.tuple #[δ d b.length G,ό])/\SlI .u8 w' (δ d b.length G) b/\qI w0 w' k {s with queue:=q} F/\qw F w w':=by
 obtain⟨f,Q,Y,ac,O,U,css,g,a⟩:=h.que;obtain⟨t1,t2,_⟩:=h.all .queue;rw[ah] at a
 match Q,a with
 | c::Q,a=>
  obtain⟨J,aa⟩:=a;have ab:=J;obtain⟨v,rfl,⟨d,G,rfl,_⟩,H⟩:=J.read;refine(MY w _ _ _ f d _ G Q Y ac O U css g).mono ?_;rintro e w' ⟨rfl,⟨ad,g'⟩,N⟩;have M:jt (λb=>T b≠ .data) w w':=N.mono λb H=>by
   rcases H with rfl | rfl
   ·rw[t1];simp
   ·rw[t2];simp
  obtain⟨ae,af⟩:=h.ring (q:=q) N (λD ag=>⟨_,Q,Y,ad,O,U,_,g',aa.mono λc y ai=>(ai.step M).other λb H=>(ag b H).elim ϒ (λx=>ϒ (by rw[h.fresh b x];simp))⟩);obtain⟨aj,I,s2,_⟩:=ab w' M;injection I with I
  subst I;exact⟨d,G,rfl,s2,ae,af⟩
structure Ia (s:RmS):Prop where
 subs:zc s
 pub:Zy s
 malf:0<=s.cnt.malf/\s.cnt.malf<=1000000000
 told:0<=s.cnt.told/\s.cnt.told<=1000000000
 strange:0<=s.cnt.strange/\s.cnt.strange<=1000000000
 acc:0<=s.cnt.acc/\s.cnt.acc<=1000000000
 pks:s.pks.length<=1000000
 clock:xz s.clock
 strs: ∀o t,qh s.strs o=ϊ t->(t.any=ό->xz t.great)/\ ∀sq,U16 sq->xz (yV t sq)
 orgs: ∀x o,qh s.tab.o x=ϊ o->(qh s.strs o).isSome=ό
 queue: ∀b∈s.queue,Byt b/\b.length<=1000000
 ids: ∀o t,qh s.strs o=ϊ t-> ∀h∈t.buf.holds,0<=h.2.2/\h.2.2<(s.pks.length:Int)
 pkok: ∀a∈s.pks,uf a.pk/\uj a.pk
 owes: ∀x id,qh s.book (x,id)=ϊ 0->(qh s.lanes x).isSome=ό
def GO (d:SlI .u8 w v b) (G:Byt b):Calls prog 16 #[v] w (yS (jl b) w):=by
 by_cases hl:(200:Int)<b.length
 ·exact Jc v b w d hl
 ·exact Qd v b w d G hl
def Im (h:qI w0 w k s F) (m:ql w w') {I G H:Value} {p:Pk} (M:PkS w' I G H p) (n: ∀b,(I.ownBlock=ϊ b∨G.ownBlock=ϊ b∨H.ownBlock=ϊ b)->w.heap.size<=b):
  ∃Fn,qI w0 w' k s (Fn++F)/\DT (· ∈Fn) I G H p/\ ∀g∈Fn,g∉F:=by
 obtain⟨T,vp,ac,x⟩:=h;have key: ∀{O:IntKind} {v:Value} {l:List Int},SlI O w' v l->v∈[I,G,H]->(∀b,v.ownBlock=ϊ b->w.heap.size<=b)->l≠[]-> ∀g,v.ownBlock=ϊ g->g∈([I,G,H].filterMap Value.ownBlock).filter (λb=>decide (w.heap.size<=b/\b<w'.heap.size)):=by
  intro O v l ab aa Y U g J;rw[G6];exact⟨O3.2 ⟨v,aa,J⟩,ϭ ⟨Y g J,ab.old U J⟩⟩
 have N: ∀b∈([I,G,H].filterMap Value.ownBlock).filter (λb=>decide (w.heap.size<=b/\b<w'.heap.size)),w.heap.size<=b/\b<w'.heap.size:=λb d=>ϟ (G6.1 d).2
 exact⟨_,⟨T,vp,ac,x.adds m N⟩,⟨key M.s η (λb d=>n b (ϒ d)),key M.e η (λb d=>n b (ϔ (ϒ d))),key M.l η (λb d=>n b (ϔ (ϔ d)))⟩,λg J hF=>by
  have ad:=(N g J).1;have ae:=(x.law g hF).2.2
  omega⟩
def Mx (bZ:qI w0 w k s F) (aQ:Ia s) (ax:s.queue=b::q) (w1 w2:Int) (acc:Bool):
  Calls prog 79 #[γ k.R,θ #[ι w1,ι w2],acc] w λe w'=>e= .returned (.tuple #[])/\qI w0 w' k s.read F/\qw F w w':=by
 obtain⟨T,vp,ci,h⟩:=bZ;obtain⟨W1,aN⟩:=ν (w.alloc (.cells #[ι w1,ι w2] 37));have bh:Hid (ql w W1):=κ (by rw[<-aN];exact ql.alloc _ _);have bg:=κ (h.on bh.o);have an:=κ (h.at.stay bh.o);have G:=κ aQ;obtain⟨bt,bu⟩:=aQ.queue b (by rw[ax];exact Ϟ);have aj:=κ (O1 bt bu);obtain⟨sq,ay⟩: ∃sq:RmS,{s with queue:=q}=sq:=⟨_,rfl⟩;have O:=κ ay;have bf:=κ (My bg.o ax);rw[ay] at bf;have cl:=β10 bg.o.blk;have ae:Hid (s.read=if Ve b then sq.tell b else sq.media b):=κ (by unfold RmS.read;rw[ax];simp only[ay]);clear h aQ ax bt bu ay;obtain⟨c,aO⟩:=ν (Ve b);have bO:Hid (Zd b=c):=κ (by rw[IR,aO]);rw[aO] at ae;have aJ:Hid (zc sq/\Zy sq/\(0<=sq.cnt.malf/\sq.cnt.malf<=1000000000/\0<=sq.cnt.told/\sq.cnt.told<=1000000000)):=κ (by rw[<-O.o];exact⟨⟨G.o.subs.keys,G.o.subs.lane,G.o.subs.few⟩,G.o.pub,G.o.malf.1,G.o.malf.2,G.o.told.1,G.o.told.2⟩);clear aO;obtain⟨bp,aP⟩:=ν ((jl b).2);obtain⟨p,aR⟩:=ν ((jl b).1);have aI:=κ aP;have be:=κ aR;have aK:=κ (λw' v (sl:SlI .u8 w' v b)=>GO sl aj.o.1);unfold yS at aK;rw[aP,aR] at aK;clear aP aR
 go_enter func79,ntmps79
 go_upto_region 1 with fail
 (try rw[aN])
 clear aN
 go_upto_if 21 with (first | (go_at_call 128;(go_call bf.o as e bF ⟨ct,cu,rfl,bD,bs,t3⟩;have aL:=κ bD;have ai:=κ bs;have bm:=κ t3;clear bD bs t3)) | (go_at_call 129;(go_call V3 _ b bF aL.o as e w4 ⟨rfl,bY⟩;rw[bO.o];obtain rfl:=bY)))
 cases c with
 | true=>
  go_wp2_with (go_at_call 130;(go_call Mt ai.o aJ.o.1 aJ.o.2.1 b _ aL.o aj.o.1 aj.o.2 aJ.o.2.2 as e w5 ⟨rfl,aq,t5⟩;have bM:=κ aq;have bW:=κ t5;clear aq t5))
  (refine bodyPost_ret (v:= .tuple #[]) ?re2 rfl ?_;(case re2=>simp[results,results79,go_sem]))
  exact⟨rfl,by rw[ae.o];exact bM.o,an.o.trans (bm.o.trans bW.o)⟩
 | false=>
  go_upto_if 31 with (go_at_call 16;(go_call aK.o _ _ aL.o as e w5 ⟨cB,cx,cy,rfl,ah,bx,bA⟩;obtain⟨os,aC,rfl,_⟩:=id ah.s;obtain⟨aD,ke,rfl,_⟩:=id ah.e;obtain⟨aE,aB,rfl,_⟩:=id ah.l;have bi:=κ bx;have bk:=κ ah;have bR:=κ bA;clear bx bA ah))
  obtain⟨W6,ac⟩:=ν (w5.alloc (.cells (Γh p os aC aD ke aE aB) 63));have bj:Hid (ql bF W6):=κ (by rw[<-ac];exact bi.o.al _);obtain⟨Fn,aq,cf,bX⟩:=Im ai.o bi.o bk.o bR.o;have bQ:=κ (aq.on (by rw[<-ac];exact ql.alloc _ _:ql w5 W6));have bS:=κ cf;have bK:=κ bX;have bU:=κ (bk.o.keep (by rw[<-ac];exact ql.alloc _ _:ql w5 W6));have aZ:Hid (W6.heap[w5.heap.size]? =ϊ (.cells (Γh p os aC aD ke aE aB) 63 (0,0))):=κ (by rw[<-ac];exact qj _ _);have bn:=κ (bm.o.trans (ai.o.stay bj.o))
  (try rw[ac])
  clear ac;by_cases he:bp=0
  ·subst he;have ak:Hid (sq.media b=match qh sq.tab.o p.sc with | none=>{sq with cnt:={sq.cnt with strange:=sq.cnt.strange+1}} | some o=>sq.accept o p):=κ (by unfold RmS.media;rw[aI.o,ϐ rfl,be.o];rfl)
   go_upto_region 7 with fail
   obtain⟨T,vp,ci,bH⟩:=bQ.o;have ap:=κ bH;have am:=κ (λw' (m:ql W6 w')=>Le (ap.o.tab.more m) p.sc);have bJ:=λ(x:qt W6)=>β11 (qq x.h ap.o.blk)
   have bT:=λ(x:qt W6)=>β4 (qq x.h aZ.o)
   clear bH;obtain⟨aa,ag⟩:=ν (qh sq.tab.o p.sc);obtain⟨M,au⟩:=ν ((aa.getD (0,0)).1);obtain⟨o2,av⟩:=ν ((aa.getD (0,0)).2);obtain⟨bB,aw⟩:=ν (aa.isSome);rw[ag,au,av,aw] at am
   go_cut [10,11] from 41 to 51 (λcg ch bG=> ∃A,cg= γ A/\ch= μ bB/\bG.heap[A]? =ϊ (.cells #[ι M,ι o2] 58 (0,0))/\ql W6 bG)
   case first=>
    refine zB W6 14 (.op 0 ύ (.op 1 ύ (.op 2 ύ (.op 3 ύ (.op 4 ύ (.op 5 ύ (.op 6 ύ (.br [7,11] λk=>if k=7 then .op 8 ύ (.op 9 ύ (.op 10 ύ (.op 11 ό (.op 12 ό (.op 13 ύ (.done)))))) else .op 7 ό (.op 8 ύ (.op 9 ύ (.op 10 ύ (.op 12 ό (.op 13 ύ (.done)))))))))))))) ξ ξ ?_
    repeat (first | (refine jg rfl rfl (qk ρ) ?_) | (refine qH rfl rfl (qk ρ) ?_;intro K d;go_big_quiet_op;go_big_quiet_on))
    refine wP ζ ?_ ?_
    ·(refine qO rfl rfl ?_;intro K d;unfold jn;go_simp)
     refine(am.o _ (ql.drewN W6 1)).mono ?_;rintro e w8 ⟨rfl,bz⟩;have J:Hid (ql W6 w8):=κ ((ql.drewN W6 1).trans bz);clear bz;refine⟨_,rfl,qk J.o,d _ _ ?_⟩;clear d K
     repeat (first | (refine jg rfl rfl (qk J.o) ?_) | (refine qH rfl rfl (qk J.o) ?_;intro K d;go_big_quiet_op;go_big_quiet_on))
     (refine qO rfl rfl ?_;intro K d;unfold jn;go_simp)
     refine⟨qk (J.o.al _),d _ _ ?_⟩;clear d K;obtain⟨w9,aA⟩:=ν (w8.alloc (.cells #[ι 0,ι 0] 58));obtain⟨A,U⟩:=ν (w8.heap.size);have I:Hid (w9.heap[A]? =ϊ (.cells #[ι 0,ι 0] 58 (0,0))):=κ (by rw[<-aA,<-U];exact qj w8 _);have Y:Hid (ql W6 w9):=κ (by rw[<-aA];exact J.o.al _);have ad:Hid (W6.heap.size<=A):=κ (by rw[<-U];exact J.o.size)
     (try rw[aA])
     (try rw[U])
     clear aA U;have z0:=β0 I.o;have aY:=β1 I.o;have aW:=yw I.o 0;have aX:=yw I.o 1
     repeat (first | (refine jg rfl rfl (qk Y.o) ?_) | (refine qH rfl rfl (qk Y.o) ?_;intro K d;go_big_quiet_op;go_big_quiet_on))
     (refine qO rfl rfl ?_;intro K d;unfold jn;go_simp)
     have H:Hid (ql W6 ((w9.setCell ⟨A,0,ϋ⟩ (ι M)).setCell ⟨A,1,ϋ⟩ (ι o2))):=κ ((Y.o.st ad.o _).st ad.o _);have ab:=κ (qB (qp (qp I.o 0 (ι M)) 1 (ι o2)) (cs':= #[ι M,ι o2]) rfl);refine⟨qk H.o,d _ _ ?_⟩;clear d K z0 aY aW aX
     repeat (first | (refine jg rfl rfl (qk H.o) ?_) | (refine qH rfl rfl (qk H.o) ?_;intro K d;go_big_quiet_op;go_big_quiet_on))
     refine zg ?_;go_wp2;go_meet;exact⟨A,rfl,rfl,ab.o,H.o⟩
    ·(refine qO rfl rfl ?_;intro K d;unfold jn;go_simp)
     refine⟨qk ((ql.drewN W6 1).al _),d _ _ ?_⟩;clear d K;obtain⟨w8,az⟩:=ν ((W6.drewN 1).alloc (.cells #[ι 0,ι 0] 58));obtain⟨A,U⟩:=ν (W6.heap.size);have bI:Hid (w8.heap[A]? =ϊ (.cells #[ι 0,ι 0] 58 (0,0))):=κ (by rw[<-az,<-U];exact qj (W6.drewN 1) _);have J:Hid (ql W6 w8):=κ (by rw[<-az];exact(ql.drewN W6 1).al _);have ad:Hid (W6.heap.size<=A):=κ (by rw[<-U];exact(ql.drewN W6 1).size)
     (try rw[az])
     (try rw[U])
     clear az U
     repeat (first | (refine jg rfl rfl (qk J.o) ?_) | (refine qH rfl rfl (qk J.o) ?_;intro K d;go_big_quiet_op;go_big_quiet_on))
     (refine qO rfl rfl ?_;intro K d;unfold jn;go_simp)
     refine(am.o _ J.o).mono ?_;rintro e w9 ⟨rfl,aU⟩;have Y:=κ (J.o.trans aU);have I:=κ (qq aU bI.o);clear aU;refine⟨_,rfl,qk Y.o,d _ _ ?_⟩;clear d K;have z0:=β0 I.o;have aY:=β1 I.o;have aW:=yw I.o 0;have aX:=yw I.o 1
     repeat (first | (refine jg rfl rfl (qk Y.o) ?_) | (refine qH rfl rfl (qk Y.o) ?_;intro K d;go_big_quiet_op;go_big_quiet_on))
     (refine qO rfl rfl ?_;intro K d;unfold jn;go_simp)
     have H:Hid (ql W6 ((w9.setCell ⟨A,0,ϋ⟩ (ι M)).setCell ⟨A,1,ϋ⟩ (ι o2))):=κ ((Y.o.st ad.o _).st ad.o _);have ab:=κ (qB (qp (qp I.o 0 (ι M)) 1 (ι o2)) (cs':= #[ι M,ι o2]) rfl);refine⟨qk H.o,d _ _ ?_⟩;clear d K z0 aY aW aX
     repeat (first | (refine jg rfl rfl (qk H.o) ?_) | (refine qH rfl rfl (qk H.o) ?_;intro K d;go_big_quiet_op;go_big_quiet_on))
     refine zg ?_;go_wp2;go_meet;exact⟨A,rfl,rfl,ab.o,H.o⟩
   case rest=>
   obtain⟨A,rfl,rfl,bo,bw⟩:=hcut;have ab:=κ bo;have H:=κ bw;clear bo bw bJ bT am;have ao:=κ (ap.o.on H.o);have bl:=κ (bn.o.trans ((ap.o.sub (F':=F) (λb af=>ϓ _ af)).at.stay H.o));cases bB with
   | false=>
    have cc:aa=ϋ:=by
     cases aa with
     | none=>rfl
     | some o=>cases aw
    have aH:Hid (sq.media b={sq with cnt:={sq.cnt with strange:=sq.cnt.strange+1}}):=κ (by rw[ak.o,ag,cc]);have ce:0<=sq.cnt.strange/\sq.cnt.strange<=1000000000:=by rw[<-O.o];exact G.o.strange
    obtain⟨cv,cw⟩:=ce;have cn:=β18 ao.o.blk;have cp:=yw ao.o.blk 18;have ba:=κ (ao.o.at.cell 18 (ι (sq.cnt.strange+1)) (s':={sq with cnt:={sq.cnt with strange:=sq.cnt.strange+1}}) (λ_ _=>rfl) ⟨rfl,rfl,rfl,rfl,rfl,rfl,rfl,rfl,rfl⟩);go_wp2
    (refine bodyPost_ret (v:= .tuple #[]) ?re3 rfl ?_;(case re3=>simp[results,results79,go_sem]))
    exact⟨rfl,by rw[ae.o,ώ ζ,aH.o];exact ba.o.1.sub (λb af=>ϓ _ af),an.o.trans (bl.o.trans (ba.o.2.sub (λb af=>ϓ _ af)))⟩
   | true=>
    obtain⟨o,ar⟩: ∃o,aa=ϊ o:=by
     cases aa with
     | none=>cases aw
     | some o=>exact⟨o,rfl⟩
    have aM:o=(M,o2):=by rw[ar] at au av;rw[<-au,<-av];rfl
    have aH:Hid (sq.media b=sq.accept (M,o2) p):=κ (by rw[ak.o,ag,ar,aM]);have bv:(qh sq.strs (M,o2)).isSome=ό:=by
     have N:=ag;rw[ar,aM] at N;rw[<-O.o] at N ⊢;exact G.o.orgs _ _ N
    obtain⟨t,aS⟩:=Ϥ.1 bv
    obtain⟨aF,aV,bC⟩:=Kh aj.o.1 (by
     intro ca;have N:=aI.o;unfold jl at N;rw[ϐ ca] at N
     cases N)
    rw[be.o] at aF aV bC;have aT:(t.any=ό->xz t.great)/\ ∀sq,U16 sq->xz (yV t sq):=by
     have N:=aS;rw[<-O.o] at N;exact G.o.strs _ _ N
    have bd:=κ (λ(cd:zc sq) (hck:xz sq.clock) (hlen:sq.pks.length<=1000000) (hcnt:0<=sq.cnt.acc/\sq.cnt.acc<=1000000000)=>FI ao.o.at cd M o2 aS p _ _ _ (bU.o.keep H.o) bS.o bK.o aF (aT.2 _ aF) aT.1 hck hlen hcnt aV τ);have bN:=κ (bd.o (by rw[<-O.o];exact⟨G.o.subs.keys,G.o.subs.lane,G.o.subs.few⟩) (by rw[<-O.o];exact G.o.clock) (by rw[<-O.o];exact G.o.pks) (by rw[<-O.o];exact G.o.acc));have a0:=β0 ab.o;have cj:=β1 ab.o;have bP:Hid (wc.rangeAt w5.heap.size 0 (Γh p os aC aD ke aE aB)):=κ (xy (qq H.o aZ.o));clear bd aT aF aV bC bv aS ar aM ag au av aw
    go_wp2_with (first | (refine wpList_load_mid rfl 63 (.tmp 8) rfl w5.heap.size 0 rfl (Γh p os aC aD ke aE aB) _ bP.o underlying63 rfl ξ ?_) | (go_at_call 132;(go_call bN.o as e cC ⟨rfl,bq,bE⟩;have bL:=κ bq;have bV:=κ bE;clear bq bE)))
    (refine bodyPost_end (v:= .tuple #[]) ?re1 rfl ?_;(case re1=>simp[results,results79,go_sem]))
    exact⟨rfl,by rw[ae.o,ώ ζ,aH.o];exact bL.o,an.o.trans (bl.o.trans bV.o)⟩
  ·have ck:(bp != 0)=ό:=by simp[he]
   have ak:Hid (sq.media b={sq with cnt:={sq.cnt with malf:=sq.cnt.malf+1}}):=κ (by unfold RmS.media;rw[aI.o,ώ he]);clear he;have cb:0<=sq.cnt.malf/\sq.cnt.malf<=1000000000:=by rw[<-O.o];exact G.o.malf
   obtain⟨cq,cr⟩:=cb;have bb:=κ (ai.o.on bj.o);obtain⟨cz,cA,aG⟩:=bb.o.blk;have cm:=β17 aG;have co:=yw aG 17;clear aG;have bc:=κ (bb.o.cell 17 (ι (sq.cnt.malf+1)) (s':={sq with cnt:={sq.cnt with malf:=sq.cnt.malf+1}}) (λ_ _=>rfl) ⟨rfl,rfl,rfl,rfl,rfl,rfl,rfl,rfl,rfl⟩);go_wp2
   (refine bodyPost_ret (v:= .tuple #[]) ?re4 rfl ?_;(case re4=>simp[results,results79,go_sem]))
   exact⟨rfl,by rw[ae.o,ώ ζ,ak.o];exact bc.o.1,an.o.trans (bn.o.trans bc.o.2)⟩
def acC (a:AcS) (vs ve vl:Value):List Value:=[.int .i64 a.o.1,.int .i64 a.o.2,.int .i64 a.num,.bool a.pk.mr,.int .u8 a.pk.ty,.int .u16 a.pk.sq,.int .u32 a.pk.st,.int .u32 a.pk.sc,vs,.bool a.pk.has,.int .u16 a.pk.pr,ve,vl]
def RmP (cs:List Value) (a:AcS) (w0 w:World) (k:RmK) (s:RmS) (F:List Nat):Prop:= ∃T vp vr,RmX T w0 w k vp vr s F/\jw RAc (λb=>T b≠ .data/\T b≠ .pks) w cs a
section
variable {T:Nat->Tg} {w0 w w':World} {k:RmK} {vp vr:Value} {s:RmS} {F:List Nat} {cs:List Value} {a:AcS}
def RmP.at (h:RmP cs a w0 w k s F):qI w0 w k s F:=by
 obtain⟨T,vp,d,x,_⟩:=h;exact⟨T,vp,d,x⟩
def RmP.on (h:RmP cs a w0 w k s F) (m:ql w w'):RmP cs a w0 w' k s F:=by
 obtain⟨T,vp,G,x,d⟩:=h;exact⟨T,vp,G,x.on m,d.step (jt.of_more m)⟩
def RmP.adds {Fn:List Nat} (h:RmP cs a w0 w k s F) (m:ql w w') (G: ∀b∈Fn,w.heap.size<=b/\b<w'.heap.size):RmP cs a w0 w' k s (Fn++F):=by
 obtain⟨T,vp,H,x,d⟩:=h;exact⟨T,vp,H,x.adds m G,d.step (jt.of_more m)⟩
def RmP.pk {H d G:Value} (h:RmP (acC a H d G) a w0 w k s F):PkS w H d G a.pk:=by
 obtain⟨T,vp,N,x,I⟩:=h;obtain⟨J,M,v3,e,pk⟩:=I.read;unfold acC at e;simp only[N2,and_true,true_and] at e;obtain⟨rfl,rfl,rfl⟩:=e;exact pk
def RmX.growP (h:RmX T w0 w k vp vr s F) {t:Tg} (G:t≠ .data) (H:t≠ .pks) (J:jt (λb=>T b=t) w w') (I:jw RAc (λb=>T b≠ .data/\T b≠ .pks) w cs a):jw RAc (λb=>jZ T t w w' b≠ .data/\jZ T t w w' b≠ .pks) w' cs a:=
 (I.step (J.mono λb d=>by rw[d];exact⟨G,H⟩)).other λb d=>ϒ ⟨λe=>d.1 ((jF h.fresh η (C0 G) b).2 e),λe=>d.2 ((jF h.fresh η (C0 H) b).2 e)⟩
def RmX.lanePutX (h:RmX T w0 w k vp vr s F) {p:Nat} (O:qh s.lanes x=ϊ l) (I:qh k.LA x=ϊ p) (b:zw (xf (λb=>T b= .lane x) w w') w' p l') (a:jt (λb=>T b= .lane x) w w'):
  RmX (jZ T (.lane x) w w') w0 w' k vp vr {s with lanes:=qx s.lanes x l'} F/\qw F w w':=by
 have J:=h.fresh;exact h.own (t:= .lane x) (k':=k) (vp':=vp) (vr':=vr) (s':={s with lanes:=qx s.lanes x l'}) ⟨η,η⟩ a
  ⟨λaa Y G d=>by
   rw[I] at G;rw[xD] at d;injection G with G
   injection d with d
   subst G d;rw[wW J η]
   exact b,by rw[I,xD];rfl⟩
  (λu M U y=>by
   cases u<;>first | exact y | skip
   rename_i N;have H:N≠x:=λe=>M (by rw[e])
   exact⟨λp l G d=>y.1 p l G (by rw[vF _ _ H] at d;exact d),by rw[vF _ _ H];exact y.2⟩)
def RmX.bookX (h:RmX T w0 w k vp vr s F) {m:Bk} (b:jy w' k.B k.b m) (a:jt (λx=>x=k.b) w w'):RmX (jZ T .book w w') w0 w' k vp vr {s with book:=m} F/\qw F w w':=by
 obtain⟨H,d,_⟩:=h.all .book;have G:=h.fresh;exact h.own (t:= .book) (k':=k) (vp':=vp) (vr':=vr) (s':={s with book:=m}) ⟨η,η⟩ (a.mono λb I=>by rw[I];exact d) ⟨(jd G η _).2 (ϒ H),(jd G η _).2 (ϒ d),b⟩ (λu J M x=>by cases u<;>first | exact x | exact ϩ rfl J)
def CD (h:RmP cs a w0 w k s F) (sub id f:Int):
  Calls prog 122 #[θ #[γ k.B],ι sub,ι id,ι f] w λe w'=>e= .returned (.tuple #[])/\RmP cs a w0 w' k {s with book:=jp s.book sub id f} F/\qw F w w':=by
 obtain⟨T,vp,N,x,G⟩:=h;have J:=(x.all .book).2.1;refine(gI x.bok sub id f).mono ?_;rintro e w' ⟨rfl,b,d⟩;obtain⟨H,I⟩:=x.bookX b d;exact⟨rfl,⟨_,_,_,H,x.growP η η (d.mono λb M=>by rw[M];exact J) G⟩,I⟩
def Mz (h:RmP cs a w0 w k s F) (x:ItS) (os J M:Option Addr) (I ke H:Nat) (af:PkS w (δ os x.pk.ss.length I) (δ J x.pk.ex.length ke) (δ M x.pk.pl.length H) x.pk) (ae:uf x.pk) (ag:uj x.pk)
  {sub:Int} {pl:Nat} (N:qh s.lanes sub=ϊ l) (U:qh k.LA sub=ϊ pl):
  Calls prog 136 #[γ pl,(Γj x os I J ke M H)] w λe w'=>e= .returned (.tuple #[ι (xp l x).2.1,μ (xp l x).2.2.1,ι (xp l x).2.2.2])/\
   RmP cs a w0 w' k {s with lanes:=qx s.lanes sub (xp l x).1} F/\qw F w w'/\jt (λb=>b≠k.R/\b≠k.ML/\b∉F) w w':=by
 obtain⟨T,vp,aj,y,Y⟩:=h;have aa:=(y.all .room).1;have ab:=(y.all .lns).1;have ac:=y.law;obtain⟨p2,O,ad⟩:=y.laneAt N;obtain rfl:p2=pl:=by rw[U] at O;injection O with e;exact e.symm
 refine(Ij ad x os J M I ke H af ae ag).mono ?_;rintro e w' ⟨rfl,b,G⟩;obtain⟨ah,ai⟩:=y.lanePutX N U b G;exact⟨rfl,⟨_,_,_,ah,y.growP η η G Y⟩,ai,G.mono λb d=>⟨λe=>by rw[e,aa] at d;(cases d),λe=>by rw[e,ab] at d;(cases d),λe=>by rw[(ac b e).1] at d;(cases d)⟩⟩
def RmX.pkRow (h:RmX T w0 w k vp vr s F) {i:Nat} (hi:i<s.pks.length): ∃g cap os H I G ke d,vp= δ (ϊ ⟨g,0,ϋ⟩) s.pks.length cap/\T g= .pks/\g<w.heap.size/\(∀j v,(acC s.pks[i] (δ os s.pks[i].pk.ss.length G) (δ H s.pks[i].pk.ex.length ke) (δ I s.pks[i].pk.pl.length d))[j]? =ϊ v->w.cell? ⟨g,i* 13+j,ϋ⟩=ϊ v)/\
  RmP (acC s.pks[i] (δ os s.pks[i].pk.ss.length G) (δ H s.pks[i].pk.ex.length ke) (δ I s.pks[i].pk.pl.length d)) s.pks[i] w0 w k s F:=by
 obtain⟨⟨⟨xs,U,r⟩,_⟩,ab⟩:=h.all .pks;rcases id U.2 with ⟨_,ac⟩ | ⟨g,cap,cur,rfl,ae,M,ad,af,_⟩
 ·omega
 ·have N:=r i hi;obtain⟨ai,ag,ah,e,pk⟩:=N.read;obtain⟨os,G,rfl,_⟩:=id pk.s;obtain⟨H,ke,rfl,_⟩:=id pk.e;obtain⟨I,d,rfl,_⟩:=id pk.l;refine⟨g,cap,os,H,I,G,ke,d,rfl,ab g rfl,lt_of_block M,λj v O=> ?_,T,_,vr,h, ?_⟩
  ·have aa:j<13:=by
    have:=(Ϛ.1 O).1
    simpa [acC] using this
   rw[U.cellAt _ τ];have J:=ϯ (λl:List Value=>l[j]?) e;simp only[B3,D1] at J;rw[ϐ aa] at J;rw[J];exact O
  ·have Y:(xs.drop (i* 13)).take 13=acC s.pks[i] (δ os s.pks[i].pk.ss.length G) (δ H s.pks[i].pk.ex.length ke) (δ I s.pks[i].pk.pl.length d):=e;rw[<-Y];exact N.other λb M=>ϒ (ϒ M)
end
section
variable (s:LnS)
def Rc (x:ItS):(xp s x).1=s/\(xp s x).2.2.2≠0/\(xp s x).2.2.1=ύ∨s.gone=ύ/\s.wanted=ό/\jJ x.pk=ό/\jj x.layer=ό/\(xp s x).2.2.2=0/\(xp s x).1={s with A:=if s.A.length<s.room then s.A++[x] else s.A.tail++[x]}/\(xp s x).2.1=(if s.A.length<s.room then 0 else (s.A.head?.map (·.id)).getD 0)/\(xp s x).2.2.1=decide (¬s.A.length<s.room):=by
 unfold xp;split
 ·exact ϒ ⟨rfl,η,rfl⟩
 ·rename_i d;have d:jj x.layer=ό/\jJ x.pk=ό:=by simpa using d
  split
  ·exact ϒ ⟨rfl,η,rfl⟩
  ·rename_i G;split
   ·exact ϒ ⟨rfl,η,rfl⟩
   ·rename_i H;refine ϔ ⟨by simpa using G,by simpa using H,d.2,d.1,rfl, ?_, ?_, ?_⟩
    all_goals (unfold yX;split<;>rename_i I<;>simp[I])
def XJ:(vC s 1=ύ/\jf s=(s,0,0,ύ))∨(vC s 1=ό/\ ∃x A,s.A=x::A/\s.B.length≠s.room/\jf s=({s with A:=A,cur:=(xJ s.cur s.tgt x.layer x.key).1,B:=if (xJ s.cur s.tgt x.layer x.key).2.1=0 then s.B++[(x,(xJ s.cur s.tgt x.layer x.key).2.2)] else s.B},x.id,(xJ s.cur s.tgt x.layer x.key).2.1,ό)):=by
 cases hm:vC s 1 with
 | false=>exact ϒ ⟨rfl,by unfold jf;rw[ϐ hm]⟩
 | true=>
  have d:(decide (0<s.A.length)&&decide (¬s.B.length=s.room))=ό:=hm;rw[B9] at d;cases hA:s.A with
  | nil=>rw[hA] at d;simp at d
  | cons x A=>exact ϔ ⟨rfl,x,A,rfl,by simpa using d.2,by unfold jf;rw[ώ (by rw[hm];decide),hA]⟩
def MZ:(s.B=[]/\qY s=(s,0,ύ,ύ))∨(∃x f B,s.B=(x,f)::B/\qY s=({s with B:=B,rw:=ul s.rw x.pk f,C:=if s.C.length<s.room then s.C++[(x.id,pkB (kY s.rw x.pk f))] else s.C.tail++[(x.id,pkB (kY s.rw x.pk f))]},(if s.C.length<s.room then 0 else (s.C.head?.map (·.1)).getD 0),decide (¬s.C.length<s.room),ό)):=by
 cases hB:s.B with
 | nil=>exact ϒ ⟨rfl,by unfold qY;rw[hB]⟩
 | cons y B=>
  obtain⟨x,f⟩:=y;refine ϔ ⟨x,f,B,rfl, ?_⟩;unfold qY NJ;rw[hB];by_cases h:s.C.length<s.room<;>simp[h]
def uV (acc:Bool):(s.C=[]/\qX s acc=(s,0,0,ύ))∨(∃o C,s.C=o::C/\((V2 s acc).2.2=ύ/\qX s acc=({s with C:=if acc then C else o::C,W:=if acc then s.W++[o] else s.W,row:=(V2 s acc).1,gone:=(V2 s acc).2.1},o.1,(if acc then 1 else 0),ό)∨
  acc=ύ/\s.gone=ύ/\(V2 s acc).2.1=ό/\qX s acc=({s with A:=[],B:=[],C:=[],row:=(V2 s acc).1,gone:=(V2 s acc).2.1},o.1,7,ό))):=by
 cases hC:s.C with
 | nil=>exact ϒ ⟨rfl,by unfold qX;rw[hC]⟩
 | cons o C=>
  refine ϔ ⟨o,C,rfl, ?_⟩;cases hb:(V2 s acc).2.2 with
  | false=>exact ϒ ⟨rfl,by unfold qX;rw[hC];simp[hb]⟩
  | true=>
   have d:s.gone=ύ:=by
    cases d:s.gone with
    | false=>rfl
    | true=>unfold V2 at hb;rw[ϐ d] at hb;simp at hb
   have H:acc=ύ:=by
    cases acc with
    | false=>rfl
    | true=>unfold V2 at hb;rw[ώ (by rw[d];decide),ϐ rfl] at hb;simp at hb
   subst H;have G:(V2 s ύ).2.1=(V2 s ύ).2.2:=by unfold V2;rw[ώ (by rw[d];decide)];rfl
   exact ϔ ⟨rfl,d,by rw[G];exact hb,by unfold qX;rw[hC];simp[hb]⟩
def NR (n:Int):(jO s n).1=s∨s.gone=ύ/\(jO s n).1={s with wanted:=ό,cur:=if s.wanted then s.cur else -1,tgt:=n}:=by
 unfold jO;split
 ·exact ϒ rfl
 ·split
  ·exact ϒ rfl
  ·rename_i h;exact ϔ ⟨by simpa using h,rfl⟩
end
def xI (s:LnS):List Int:=s.A.map (·.id)++s.B.map (·.1.id)++s.C.map (·.1)
def QC (m:Bk) (sub f:Int) (k:Int×Int):qh (vM m sub f) k=(qh m k).map λv=>if k.1=sub/\v=0 then f else v:=by
 unfold vM
 induction m with
 | nil=>simp[qh]
 | cons p l ih=>
  obtain⟨⟨a,c⟩,g⟩:=p;simp only[Ϭ];by_cases h:a=sub/\g=0
  ·rw[ϐ h];unfold qh;by_cases e:k=(a,c)
   ·subst e;simp[h]
   ·simp[e,ih]
  ·rw[ώ h];unfold qh;by_cases e:k=(a,c)
   ·subst e;simp[h]
   ·simp[e,ih]
def xM (strs:List (Og×zu)) (id:Int):Prop:= ∃o t,qh strs o=ϊ t/\id∈thJ t.buf.holds
structure qR (P:Int->Int->Prop) (s:RmS):Prop where
 org: ∀o t,qh s.strs o=ϊ t->o∈orgs
 nd: ∀o t,qh s.strs o=ϊ t->(thJ t.buf.holds).Nodup
 dis: ∀o t o' t',qh s.strs o=ϊ t->qh s.strs o'=ϊ t'-> ∀id,id∈thJ t.buf.holds->id∈thJ t'.buf.holds->o=o'
 few: ∀o t,qh s.strs o=ϊ t-> ∀id∈thJ t.buf.holds,0<=id/\id<(s.pks.length:Int)
 sub: ∀x l,qh s.lanes x=ϊ l->x∈subIds/\1<=l.room/\(xI l).Nodup
 owd: ∀x l,qh s.lanes x=ϊ l-> ∀id∈xI l,qh s.book (x,id)=ϊ 0/\ ¬xM s.strs id/\ ¬P x id
 src: ∀x id,qh s.book (x,id)=ϊ 0-> ∃l,qh s.lanes x=ϊ l/\l.gone=ύ/\l.wanted=ό/\(id∈xI l∨xM s.strs id∨P x id)
 bel: ∀x id v,qh s.book (x,id)=ϊ v->0<=id/\id<(s.pks.length:Int)
def OwO (s:RmS):Prop:=qR (λ_ _=>False) s
def ye (b:Bk) (x id f:Int) (d:1<=f/\f<=8) (k:Int×Int):qh (jp b x id f) k=if k=(x,id)/\qh b k=ϊ 0 then ϊ f else qh b k:=by
 unfold jp;by_cases h:qh b (x,id)=ϊ 0
 ·rw[ϐ h];unfold zi;rw[ϐ d,ϐ (by rw[h];rfl),ϐ (by rw[h];rfl),qF];by_cases e:k=(x,id)
  ·rw[ϐ e,ϐ ⟨e,by rw[e];exact h⟩]
  ·rw[ώ e,ώ (λc=>e c.1)]
 ·rw[ώ h];by_cases e:k=(x,id)
  ·rw[ώ (λc=>h (by rw[<-e];exact c.2))]
  ·rw[ώ (λc=>e c.1)]
def yO (x f:Int) (H:1<=f/\f<=8) (k:Int×Int): ∀(E:List Int) (b:Bk),qh (E.foldl (λb id=>jp b x id f) b) k=if (k.1=x/\k.2∈E)/\qh b k=ϊ 0 then ϊ f else qh b k
 | [],b=>by simp
 | id::E,b=>by
  rw[ε,yO x f H k E,ye b x id f H];obtain⟨G,d⟩:=k;have I:f≠0:=by omega
  by_cases h0:qh b (G,d)=ϊ 0
  ·by_cases e:G=x<;>by_cases e2:d=id<;>by_cases e3:d∈E<;>simp[h0,e,e2,e3]
   all_goals (simp_all)
  ·by_cases e:G=x<;>by_cases e2:d=id<;>by_cases e3:d∈E<;>simp[h0]
def yv (id f:Int) (H:1<=f/\f<=8) (k:Int×Int): ∀(E:List Int) (b:Bk),qh (xG b E id f) k=if (k.2=id/\k.1∈E)/\qh b k=ϊ 0 then ϊ f else qh b k
 | [],b=>by simp[xG]
 | x::E,b=>by
  have I:=yv id f H k E (jp b x id f);unfold xG at I ⊢;rw[ε,I,ye b x id f H];obtain⟨d,G⟩:=k;have J:f≠0:=by omega
  by_cases h0:qh b (d,G)=ϊ 0
  ·by_cases e:G=id<;>by_cases e2:d=x<;>by_cases e3:d∈E<;>simp[h0,e,e2,e3]
   all_goals (simp_all)
  ·by_cases e:G=id<;>by_cases e2:d=x<;>by_cases e3:d∈E<;>simp[h0]
def qR.iff (h:qR P s) (e: ∀x i,P x i↔P' x i):qR P' s:=
  ⟨h.org,h.nd,h.dis,h.few,h.sub,λx l J i hi=>by obtain⟨d,G,H⟩:=h.owd x l J i hi;exact⟨d,G,λc=>H ((e x i).2 c)⟩,
   λx i hi=>by obtain⟨l,d,G,H,I⟩:=h.src x i hi;exact⟨l,d,G,H,by rw[<-e];exact I⟩,h.bel⟩
def qR.same (h:qR P s) (U:s'.strs=s.strs) (Y:s'.lanes=s.lanes) (aa:s'.book=s.book) (ab:s'.pks=s.pks):qR P s':=by
 obtain⟨J,M,N,H,O,d,G,I⟩:=h;rw[<-U] at J M N H d G;rw[<-Y] at O d G;rw[<-aa] at d G I;rw[<-ab] at H I;exact⟨J,M,N,H,O,d,G,I⟩
def qR.laneN (h:qR P s) (M:qh s.lanes x=ϊ l) (J E:List Int) (f:Int) (aa:1<=f/\f<=8) (ac:(xI l'++E).Perm (J++xI l)) (ad: ∀i∈J,P x i/\ ¬xM s.strs i/\qh s.book (x,i)=ϊ 0) (O:J.Nodup) (ak:l'.room=l.room) (ai:l'.gone=l.gone) (al:l.wanted=ό->l'.wanted=ό):
  qR (λy i=>P y i/\ ¬(y=x/\i∈J)) {s with lanes:=qx s.lanes x l',book:=E.foldl (λb id=>jp b x id f) s.book}:=by
 have ah:f≠0:=by omega
 have aj:(xI l'++E).Nodup:=by
  rw[ac.nodup_iff,G3];refine⟨O,(h.sub x l M).2.2,λa af b ag e=> ?_⟩;subst e;exact(h.owd x l M a ag).2.2 (ad a af).1
 have O:=G3.1 aj;refine⟨h.org,h.nd,h.dis,h.few,λy m G=> ?_,λy m G id ab=> ?_,λy id N=> ?_,λy id v U=> ?_⟩
 ·rw[qF] at G;split at G
  ·rename_i e;injection G with e2
   subst e e2;exact⟨(h.sub _ l M).1,by rw[ak];exact(h.sub _ l M).2.1,O.1⟩
  ·exact h.sub y m G
 ·simp only at G ⊢;rw[qF] at G;rw[yO x f aa];split at G
  ·rename_i e;injection G with e2
   subst e e2;have ae: ¬id∈E:=λc=>O.2.2 id ab id c rfl
   rw[ώ (λc=>ae c.1.2)];rcases ϡ.1 (ac.subset (Θ _ ab)) with hi | hi
   ·obtain⟨I,H,d⟩:=ad id hi;exact⟨d,H,λc=>c.2 ⟨rfl,hi⟩⟩
   ·obtain⟨I,H,d⟩:=h.owd y l M id hi;exact⟨I,H,λc=>d c.1⟩
  ·rename_i e;obtain⟨I,H,d⟩:=h.owd y m G id ab;exact⟨by rw[ώ (λc=>e c.1.1)];exact I,H,λc=>d c.1⟩
 ·simp only at N ⊢;rw[yO x f aa] at N;split at N
  ·injection N with e
   exact ϩ e ah
  ·rename_i Y;obtain⟨m,G,I,H,d⟩:=h.src y id N;rw[qF];by_cases e:y=x
   ·subst e;rw[M] at G;injection G with e2
    subst e2;refine⟨l',by rw[ϐ rfl],by rw[ai];exact I,al H, ?_⟩;have key:id∈J++xI l->id∈xI l':=λd=>by
     rcases ϡ.1 (ac.symm.subset d) with h4 | h4
     ·exact h4
     ·exact ϩ ⟨⟨rfl,h4⟩,N⟩ Y
    rcases d with d | d | d
    ·exact ϒ (key (ϓ _ d))
    ·exact ϔ (ϒ d)
    ·by_cases hi:id∈J
     ·exact ϒ (key (Θ _ hi))
     ·exact ϔ (ϔ ⟨d,λc=>hi c.2⟩)
   ·refine⟨m,by rw[ώ e];exact G,I,H, ?_⟩;rcases d with d | d | d
    ·exact ϒ d
    ·exact ϔ (ϒ d)
    ·exact ϔ (ϔ ⟨d,λc=>e c.1⟩)
 ·simp only at U;rw[yO x f aa] at U;split at U
  ·rename_i Y;exact h.bel y id 0 Y.2
  ·exact h.bel y id v U
def qR.lane (h:qR P s) (H:qh s.lanes x=ϊ l) (E:List Int) (f:Int) (d:1<=f/\f<=8) (I:(xI l'++E).Perm (xI l)) (J:l'.room=l.room) (G:l'.gone=l.gone) (M:l.wanted=ό->l'.wanted=ό):
  qR P {s with lanes:=qx s.lanes x l',book:=E.foldl (λb id=>jp b x id f) s.book}:=
 (h.laneN H [] E f d I (λi hi=>by simp at hi) O4 J G M).iff λy i=>by simp
def qR.endL (h:qR P s) (x:Int) {L:List (Int×LnS)} {b:Bk} (J: ∀y,y≠x->qh L y=qh s.lanes y) (O: ∀m,qh L x=ϊ m->x∈subIds/\1<=m.room/\xI m=[])
  (I: ∀y i,y≠x->qh b (y,i)=qh s.book (y,i)) (U: ∀i,qh b (x,i)≠ϊ 0) (Y: ∀i v,qh b (x,i)=ϊ v-> ∃v',qh s.book (x,i)=ϊ v'):qR P {s with lanes:=L,book:=b}:=by
 refine⟨h.org,h.nd,h.dis,h.few,λy m d=> ?_,λy m d i hi=> ?_,λy i H=> ?_,λy i v G=> ?_⟩
 ·by_cases e:y=x
  ·subst e;obtain⟨M,N,a3⟩:=O m d;exact⟨M,N,by rw[a3];exact O4⟩
  ·exact h.sub y m (by rw[<-J y e];exact d)
 ·by_cases e:y=x
  ·subst e;obtain⟨M,N,a3⟩:=O m d;rw[a3] at hi;simp at hi
  ·simp only at d ⊢;rw[I y i e];exact h.owd y m (by rw[<-J y e];exact d) i hi
 ·by_cases e:y=x
  ·subst e;exact ϩ H (U i)
  ·simp only at H ⊢;rw[I y i e] at H;rw[J y e];exact h.src y i H
 ·by_cases e:y=x
  ·subst e;obtain⟨v',aa⟩:=Y i v G;exact h.bel y i v' aa
  ·simp only at G;rw[I y i e] at G;exact h.bel y i v G
def held_put {strs:List (Og×zu)} {i:Int}:xM (qx strs o t') i↔i∈thJ t'.buf.holds∨ ∃G t,G≠o/\qh strs G=ϊ t/\i∈thJ t.buf.holds:=by
 constructor
 ·rintro⟨G,t,d,H⟩;rw[qF] at d;by_cases e:G=o
  ·rw[ϐ e] at d;injection d with e1
   subst e1;exact ϒ H
  ·rw[ώ e] at d;exact ϔ ⟨G,t,e,d,H⟩
 ·rintro(h | ⟨G,t,e,d,H⟩)
  ·exact⟨o,t',by rw[qF,ϐ rfl],h⟩
  ·exact⟨G,t,by rw[qF,ώ e];exact d,H⟩
def qR.shrink (h:qR P s) (I:qh s.strs o=ϊ t) (E:List Int) (M:(thJ t'.buf.holds++E).Perm (thJ t.buf.holds)):
  qR (λx i=>P x i∨i∈E) {s with strs:=qx s.strs o t'}/\(∀i∈E,¬xM (qx s.strs o t') i)/\ ∀i,xM (qx s.strs o t') i->xM s.strs i:=by
 have aj:=M.nodup_iff.2 (h.nd o t I);have O:=G3.1 aj;have aa: ∀i,xM (qx s.strs o t') i->xM s.strs i:=λi hi=>by
  rcases held_put.1 hi with J | ⟨G,u,_,N,h3⟩
  ·exact⟨o,t,I,M.subset (Θ _ J)⟩
  ·exact⟨G,u,N,h3⟩
 have al: ∀i,xM s.strs i->xM (qx s.strs o t') i∨i∈E:=λi ⟨G,u,J,N⟩=>by
  by_cases e:G=o
  ·subst e;rw[I] at J;injection J with e1
   subst e1;rcases ϡ.1 (M.symm.subset N) with h3 | h3
   ·exact ϒ (held_put.2 (ϒ h3))
   ·exact ϔ h3
  ·exact ϒ (held_put.2 (ϔ ⟨G,u,e,J,N⟩))
 refine⟨⟨λG u d=> ?_,λG u d=> ?_,λam ap o2 aq U Y i ag ah=> ?_,λG u d i hi=> ?_,h.sub,λx l ai i hi=> ?_,λx i ak=> ?_,h.bel⟩,λi hi af=> ?_,aa⟩
 ·rw[qF] at d;split at d
  ·rename_i e;rw[e];exact h.org o t I
  ·exact h.org G u d
 ·rw[qF] at d;split at d
  ·injection d with e
   subst e;exact O.1
  ·exact h.nd G u d
 ·simp only[qF] at U Y;have q: ∀{G:Og} {u:zu},(if G=o then ϊ t' else qh s.strs G)=ϊ u->i∈thJ u.buf.holds-> ∃v,qh s.strs G=ϊ v/\i∈thJ v.buf.holds:=by
   intro G u d hi;split at d
   ·rename_i e;injection d with e2
    subst e2;exact⟨t,by rw[e];exact I,M.subset (Θ _ hi)⟩
   ·exact⟨u,d,hi⟩
  obtain⟨an,ab,ad⟩:=q U ag;obtain⟨ao,ac,ae⟩:=q Y ah;exact h.dis am an o2 ao ab ac i ad ae
 ·simp only at d;rw[qF] at d;split at d
  ·injection d with e
   subst e;exact h.few o t I i (M.subset (Θ _ hi))
  ·exact h.few G u d i hi
 ·obtain⟨a,b,c⟩:=h.owd x l ai i hi;refine⟨a,λH=>b (aa i H),λH=>H.elim c λH=>b ⟨o,t,I,M.subset (ϓ _ H)⟩⟩
 ·obtain⟨l,a,b,c,H⟩:=h.src x i ak;refine⟨l,a,b,c, ?_⟩;rcases H with H | H | H
  ·exact ϒ H
  ·rcases al i H with e | e
   ·exact ϔ (ϒ e)
   ·exact ϔ (ϔ (ϔ e))
  ·exact ϔ (ϔ (ϒ H))
 ·rcases held_put.1 af with J | ⟨G,u,e,N,h3⟩
  ·exact O.2.2 i J i hi rfl
  ·exact e (h.dis G u o t N I i h3 (M.subset (ϓ _ hi)))
def qR.keep (h:qR P s) (d:qh s.strs o=ϊ t) (e:t'.buf.holds=t.buf.holds):qR P {s with strs:=qx s.strs o t'}:=
 (h.shrink (t':=t') d [] (by rw[e,Ω])).1.iff λx i=>by simp
def qR.strNew (h:qR P s) (ab:o∈orgs) (aa:qh s.strs o=ϋ) (e:t'.buf.holds=[]):qR P {s with strs:=qx s.strs o t'}:=by
 have k: ∀i,xM (qx s.strs o t') i↔xM s.strs i:=λi=>by
  rw[held_put,e];constructor
  ·rintro(U | ⟨G,u,_,H,I⟩)
   ·simp[thJ] at U
   ·exact⟨G,u,H,I⟩
  ·rintro⟨G,u,H,I⟩;exact ϔ ⟨G,u,(λc=>by rw[c,aa] at H;cases H),H,I⟩
 refine⟨λG u d=> ?_,λG u d=> ?_,λad ae o2 af N O i J M=> ?_,λG u d i hi=> ?_,h.sub,λx l Y i hi=> ?_,λx i ac=> ?_,h.bel⟩
 ·rw[qF] at d;split at d
  ·rename_i e;rw[e];exact ab
  ·exact h.org G u d
 ·rw[qF] at d;split at d
  ·injection d with e2
   subst e2;rw[e];exact O4
  ·exact h.nd G u d
 ·simp only[qF] at N O;have q: ∀{G:Og} {u:zu},(if G=o then ϊ t' else qh s.strs G)=ϊ u->i∈thJ u.buf.holds->qh s.strs G=ϊ u:=by
   intro G u d hi;split at d
   ·injection d with e2
    subst e2;rw[e] at hi;simp[thJ] at hi
   ·exact d
  exact h.dis ad ae o2 af (q N J) (q O M) i J M
 ·simp only at d;rw[qF] at d;split at d
  ·injection d with e2
   subst e2;rw[e] at hi;simp[thJ] at hi
  ·exact h.few G u d i hi
 ·rw[k];exact h.owd x l Y i hi
 ·simp only[k];exact h.src x i ac
def qR.grow (h:qR P s) (M:qh s.strs o=ϊ t) (I:Int) (N:(thJ t'.buf.holds).Perm (I::thJ t.buf.holds)) (hi:0<=I/\I<(s.pks.length:Int)) (ac: ¬xM s.strs I) (aq: ∀x l,qh s.lanes x=ϊ l->I∉xI l):
  qR (λx i=>P x i/\i≠I) {s with strs:=qx s.strs o t'}:=by
 have au:(thJ t'.buf.holds).Nodup:=by
  rw[N.nodup_iff,D4];exact⟨λc=>ac ⟨o,t,M,c⟩,h.nd o t M⟩
 have ad: ∀i,xM (qx s.strs o t') i↔i=I∨xM s.strs i:=λi=>by
  rw[held_put];constructor
  ·rintro(ab | ⟨G,u,_,O,U⟩)
   ·rcases ϰ.1 (N.subset ab) with h4 | h4
    ·exact ϒ h4
    ·exact ϔ ⟨o,t,M,h4⟩
   ·exact ϔ ⟨G,u,O,U⟩
  ·rintro(ab | ⟨G,u,O,U⟩)
   ·exact ϒ (N.symm.subset (by rw[ab];exact Ϟ))
   ·by_cases e:G=o
    ·subst e;rw[M] at O;injection O with Y
     subst Y;exact ϒ (N.symm.subset (Ϩ _ U))
    ·exact ϔ ⟨G,u,e,O,U⟩
 refine⟨λG u d=> ?_,λG u d=> ?_,λal aw o2 ax aj ak i ar J=> ?_,λG u d i J=> ?_,h.sub,λx l ai i J=> ?_,λx i av=> ?_,h.bel⟩
 ·rw[qF] at d;split at d
  ·rename_i e;rw[e];exact h.org o t M
  ·exact h.org G u d
 ·rw[qF] at d;split at d
  ·injection d with e
   subst e;exact au
  ·exact h.nd G u d
 ·simp only[qF] at aj ak;have q: ∀{G:Og} {u:zu},(if G=o then ϊ t' else qh s.strs G)=ϊ u->i∈thJ u.buf.holds->(i=I/\G=o)∨ ∃v,qh s.strs G=ϊ v/\i∈thJ v.buf.holds:=by
   intro G u d hi;split at d
   ·rename_i e;injection d with aa
    subst aa;rcases ϰ.1 (N.subset hi) with h4 | h4
    ·exact ϒ ⟨h4,e⟩
    ·exact ϔ ⟨t,by rw[e];exact M,h4⟩
   ·exact ϔ ⟨u,d,hi⟩
  rcases q aj ar with ⟨Y,aa⟩ | ⟨am,ae,ag⟩<;>rcases q ak J with ⟨ao,ap⟩ | ⟨an,af,ah⟩
  ·rw[aa,ap]
  ·exact ϩ ⟨o2,an,af,by rw[<-Y];exact ah⟩ ac
  ·exact ϩ ⟨al,am,ae,by rw[<-ao];exact ag⟩ ac
  ·exact h.dis al am o2 an ae af i ag ah
 ·simp only at d;rw[qF] at d;split at d
  ·injection d with e
   subst e;rcases ϰ.1 (N.subset J) with h4 | h4
   ·rw[h4];exact hi
   ·exact h.few o t M i h4
  ·exact h.few G u d i J
 ·obtain⟨a,b,c⟩:=h.owd x l ai i J;refine⟨a,λH=> ?_,λH=>c H.1⟩;rcases(ad i).1 H with e | e
  ·exact aq x l ai (by rw[<-e];exact J)
  ·exact b e
 ·obtain⟨l,a,b,c,H⟩:=h.src x i av;refine⟨l,a,b,c, ?_⟩;rcases H with H | H | H
  ·exact ϒ H
  ·exact ϔ (ϒ ((ad i).2 (ϔ H)))
  ·by_cases e:i=I
   ·exact ϔ (ϒ ((ad i).2 (ϒ e)))
   ·exact ϔ (ϔ ⟨H,e⟩)
def qR.settled (h:qR P s) (L:List Int) (H f:Int) (M:1<=f/\f<=8) (O: ∀x,qh s.book (x,H)=ϊ 0->x∈L) (U: ∀x l,qh s.lanes x=ϊ l->H∉xI l):
  qR (λx i=>P x i/\i≠H) {s with book:=xG s.book L H f}:=by
 have Y:f≠0:=by omega
 refine⟨h.org,h.nd,h.dis,h.few,h.sub,λx l N i hi=> ?_,λx i G=> ?_,λx i v I=> ?_⟩
 ·obtain⟨a,b,c⟩:=h.owd x l N i hi;simp only;rw[yv H f M,ώ (λe=>U x l N (by rw[<-e.1.1];exact hi))];exact⟨a,b,λd=>c d.1⟩
 ·simp only at G ⊢;rw[yv H f M] at G;split at G
  ·injection G with e
   exact ϩ e Y
  ·rename_i J;obtain⟨l,a,b,c,d⟩:=h.src x i G;refine⟨l,a,b,c, ?_⟩;rcases d with d | d | d
   ·exact ϒ d
   ·exact ϔ (ϒ d)
   ·exact ϔ (ϔ ⟨d,λe=>J ⟨⟨e,O x (by rw[<-e];exact G)⟩,G⟩⟩)
 ·simp only at I;rw[yv H f M] at I;split at I
  ·rename_i J;exact h.bel x i 0 J.2
  ·exact h.bel x i v I
def Kt (l:LnS):(xI (jf l).1++(if (jf l).2.2.2&& !decide ((jf l).2.2.1=0) then [(jf l).2.1] else [])).Perm (xI l)/\(jf l).1.room=l.room/\(jf l).1.gone=l.gone/\(jf l).1.wanted=l.wanted/\(jf l).2.2.1<=8/\0<=(jf l).2.2.1:=by
 rcases XJ l with ⟨_,e⟩ | ⟨_,x,A,d,_,e⟩
 ·rw[e];simp
 ·rw[e];refine⟨?_,rfl,rfl,rfl, ?_⟩
  ·unfold xI;rw[d];by_cases ht:(xJ l.cur l.tgt x.layer x.key).2.1=0
   ·simp only[ht,A0,decide_true,Bool.not_true,O6,Ϯ,C2,Ω,Ξ,Ϭ,D5];rw[C7];intro a;simp only[D6,I4,J4];omega
   ·simp only[ht,C2,decide_false,Bool.not_false,Bool.and_true,A0,Ϭ];rw[C7];intro a;simp only[D6,I4,J4];omega
  ·unfold xJ
   repeat' split
   all_goals (simp)
def YV (l:LnS) (h:1<=l.room):(xI (qY l).1++(if (qY l).2.2.2&&(qY l).2.2.1 then [(qY l).2.1] else [])).Perm (xI l)/\(qY l).1.room=l.room/\(qY l).1.gone=l.gone/\(qY l).1.wanted=l.wanted:=by
 rcases MZ l with ⟨_,e⟩ | ⟨x,f,B,d,e⟩
 ·rw[e];simp
 ·rw[e];refine⟨?_,rfl,rfl,rfl⟩;unfold xI;rw[d];by_cases hc:l.C.length<l.room
  ·simp only[hc,A0,not_true,decide_false,O6,Ϯ,C2,Ω,Ξ,Ϭ,D5];rw[C7];intro a;simp only[D6,I4,J4];omega
  ·cases hC:l.C with
   | nil=>rw[hC] at hc;simp at hc;omega
   | cons o C=>
    rw[hC] at hc;simp only[hc,C2,not_false_eq_true,decide_true,Bool.and_true,A0,Ξ,Ϭ,D5,T5,List.head?_cons,C6,ϥ];rw[C7];intro a;simp only[D6,I4,J4];omega
def Bi (l:LnS) (x:ItS) (h:1<=l.room) (d:l.gone=ύ) (G:l.wanted=ό) (H:jJ x.pk=ό) (I:jj x.layer=ό):(xI (xp l x).1++(if (xp l x).2.2.1 then [(xp l x).2.1] else [])).Perm (x.id::xI l)/\(xp l x).1.room=l.room/\(xp l x).1.gone=l.gone/\(xp l x).1.wanted=l.wanted:=by
 have e:xp l x=((yX l x).1,(yX l x).2.1,(yX l x).2.2,0):=by unfold xp;rw[d,G,H,I];simp
 rw[e];unfold yX;by_cases hc:l.A.length<l.room
 ·rw[ϐ hc];refine⟨?_,rfl,rfl,rfl⟩;unfold xI;simp only[Ϯ,C2,Ω,Ξ,Ϭ,D5];rw[C7];intro a;simp only[D6,I4,J4];omega
 ·rw[ώ hc];refine⟨?_,rfl,rfl,rfl⟩;unfold xI;cases hA:l.A with
  | nil=>rw[hA] at hc;simp at hc;omega
  | cons o A=>
   simp only[A0,Ξ,Ϭ,D5,T5,List.head?_cons,C6,ϥ];rw[C7];intro a;simp only[D6,I4,J4];omega
def UV (l:LnS) (n:Int) (d:n=1∨n=2∨n=3):(xI (vh l n)++KG l n).Perm (xI l):=by
 unfold xI vh KG;rcases d with rfl | rfl | rfl<;>simp only[A0,(by decide: ¬(2:Int)=1),(by decide: ¬(3:Int)=1),(by decide: ¬(3:Int)=2),(by decide: ¬(1:Int)=2),(by decide: ¬(1:Int)=3),(by decide: ¬(2:Int)=3),C2,D5,I3,Ω]
 ·rw[C7];intro a;simp only[D6];omega
 ·rw[C7];intro a;simp only[D6];omega
 ·exact List.Perm.refl _
def qR.fin (h:qR P s) (J: ∀y i,P y i->y∈subIds->False):OwO s:=
  ⟨h.org,h.nd,h.dis,h.few,h.sub,λx l M i hi=>by obtain⟨G,H,_⟩:=h.owd x l M i hi;exact⟨G,H,λc=>c⟩,
   λx i hi=>by
    obtain⟨l,G,H,I,d⟩:=h.src x i hi
    refine⟨l,G,H,I, ?_⟩
    rcases d with d | d | d
    · exact ϒ d
    · exact ϔ (ϒ d)
    · exact(J x i d (h.sub x l G).1).elim,h.bel⟩
def qR.choose (h:qR P s) (x:Int):qR P (s.choose x):=by
 unfold RmS.choose;cases hl:qh s.lanes x with
 | none=>exact h
 | some l=>
  obtain⟨d,H,G,I,M,J⟩:=Kt l;simp only;cases hc:(jf l).2.2.2&& !decide ((jf l).2.2.1=0) with
  | false=>
   rw[hc] at d;simp only[Ϯ,C2] at d ⊢;exact h.lane hl [] 1 ζ d H G (λe=>by rw[I];exact e)
  | true=>
   rw[hc] at d;simp only[A0] at d ⊢;have:(jf l).2.2.1≠0:=by
    intro e;rw[e] at hc;simp at hc
   exact h.lane hl [(jf l).2.1] (jf l).2.2.1 τ d H G (λe=>by rw[I];exact e)
def qR.rewrite (h:qR P s) (x:Int):qR P (s.rewrite x):=by
 unfold RmS.rewrite;cases hl:qh s.lanes x with
 | none=>exact h
 | some l=>
  obtain⟨d,H,G,I⟩:=YV l (h.sub x l hl).2.1;simp only;cases hc:(qY l).2.2.2&&(qY l).2.2.1 with
  | false=>
   rw[hc] at d;simp only[Ϯ,C2] at d ⊢;exact h.lane hl [] 1 ζ d H G (λe=>by rw[I];exact e)
  | true=>
   rw[hc] at d;simp only[A0] at d ⊢;exact h.lane hl [(qY l).2.1] 6 ζ d H G (λe=>by rw[I];exact e)
def qR.drainL (h:qR P s) (w:Og):qR P (s.drainL w):=by
 unfold RmS.drainL;cases hl:qh s.lanes w.2 with
 | none=>exact h
 | some l=>
  simp only;refine h.lane hl (KG l (xB w.1)) 8 ζ (UV l _ ?_) rfl rfl (λe=>e);unfold xB
  repeat' split
  all_goals simp
def VR (m:Bk) (x i:Int) {f:Int} (d:f≠0):qh (vM m x f) (x,i)≠ϊ 0:=by
 rw[QC];cases qh m (x,i) with
 | none=>simp
 | some v=>
  simp only[C6,true_and];split
  ·intro e;injection e with e;exact d e
  ·rename_i G;intro e;injection e with e;exact G e
def XH (m:Bk) {y:Int} (i f:Int) (h:y≠x):qh (vM m x f) (y,i)=qh m (y,i):=by
 rw[QC];cases qh m (y,i) with
 | none=>rfl
 | some v=>simp[h]
def VQ (m:Bk) (x i f v:Int) (h:qh (vM m x f) (x,i)=ϊ v): ∃v',qh m (x,i)=ϊ v':=by
 rw[QC] at h;cases hm:qh m (x,i) with
 | none=>rw[hm] at h;cases h
 | some v'=>exact⟨v',rfl⟩
def qR.write (h:qR P s) (x:Int) (acc:Bool):qR P (s.write x acc):=by
 unfold RmS.write;cases hl:qh s.lanes x with
 | none=>exact h
 | some l=>
  have ab:l.gone=ό->xI l=[]:=λd=>by
   cases hi:xI l with
   | nil=>rfl
   | cons i L=>
    obtain⟨ac,_⟩:=h.owd x l hl i (by rw[hi];exact Ϟ);obtain⟨ae,O,U,_⟩:=h.src x i ac;rw[hl] at O;injection O with e
    subst e;rw[d] at U;cases U
  simp only;cases d:(qX l acc).1.gone with
  | true=>
   have hi:(qX l acc).1.room=l.room/\xI (qX l acc).1=[]:=by
    rcases uV l acc with ⟨_,e⟩ | ⟨o,C,M,⟨G,e⟩ | ⟨_,_,_,e⟩⟩
    ·rw[e] at d ⊢;exact⟨rfl,ab d⟩
    ·rw[e] at d;simp only at d;exfalso;have H:l.gone=ό:=by
      cases H:l.gone with
      | true=>rfl
      | false=>
       unfold V2 at G d;rw[ώ (by rw[H];decide)] at G d;cases acc with
       | true=>simp at d
       | false=>
        simp only[Ϯ,C2] at G d;rw[G] at d;cases d
     have:=ab H;unfold xI at this;rw[M] at this;simp at this
    ·rw[e];exact⟨rfl,rfl⟩
   simp only[A0];obtain⟨b,G,Y⟩: ∃b,(if (qX l acc).2.2.2&&decide ((qX l acc).2.2.1=1) then jp s.book x (qX l acc).2.1 (qX l acc).2.2.1 else s.book)=b/\(∀y i,y≠x->qh b (y,i)=qh s.book (y,i))/\ ∀i v,qh b (x,i)=ϊ v-> ∃v',qh s.book (x,i)=ϊ v':=by
    refine⟨_,rfl, ?_⟩;split
    ·rename_i N;rw[B9] at N;have:(qX l acc).2.2.1=1:=ϟ N.2;rw[this];refine⟨λy i J=> ?_,λi v I=> ?_⟩
     ·rw[ye _ _ _ _ ζ,ώ (λc=>J (by have:=ϯ Prod.fst c.1;exact this))]
     ·rw[ye _ _ _ _ ζ] at I;split at I
      ·rename_i N;exact⟨0,N.2⟩
      ·exact⟨v,I⟩
    ·exact⟨λy i J=>rfl,λi v I=>⟨v,I⟩⟩
   rw[G];refine(h.endL x (L:=qx s.lanes x (qX l acc).1) (b:=vM b x 7) (λy J=>by rw[qF,ώ J]) (λm aa=> ?_) (λy i J=> ?_) (λi=>VR b x i ζ) (λi v I=> ?_)).same rfl rfl rfl rfl
   ·rw[qF,ϐ rfl] at aa;injection aa with e
    subst e;exact⟨(h.sub x l hl).1,by rw[hi.1];exact(h.sub x l hl).2.1,hi.2⟩
   ·rw[XH b i 7 J];exact Y.1 y i J
   ·obtain⟨v',ad⟩:=VQ b x i 7 v I;exact Y.2 i v' ad
  | false=>
   simp only[Ϯ,C2];rcases uV l acc with ⟨_,e⟩ | ⟨o,C,M,⟨G,e⟩ | ⟨_,_,G,e⟩⟩
   ·rw[e] at d ⊢;simp only[K3,Ϯ,C2];exact(h.lane hl [] 1 ζ (by rw[Ω]) rfl rfl (λe=>e)).same rfl rfl rfl rfl
   ·rw[e] at d ⊢;simp only at d;have H:l.gone=ύ:=by
     cases H:l.gone with
     | false=>rfl
     | true=>
      unfold V2 at d;rw[ϐ H] at d;cases d
    cases acc with
    | true=>
     simp only[A0,I8,decide_true];refine(h.lane (l':={l with C:=C,W:=l.W++[o],row:=(V2 l ό).1,gone:=(V2 l ό).2.1}) hl [o.1] 1 ζ ?_ rfl (by rw[H];exact d) (λe=>e)).same rfl rfl rfl rfl;unfold xI;rw[M];rw[C7];intro a;simp only[D6,Ϭ,I4,J4];omega
    | false=>
     simp only[Ϯ,C2,(by decide: ¬(0:Int)=1),decide_false,O6];refine(h.lane (l':={l with C:=o::C,row:=(V2 l ύ).1,gone:=(V2 l ύ).2.1}) hl [] 1 ζ ?_ rfl (by rw[H];exact d) (λe=>e)).same rfl rfl rfl rfl;unfold xI;rw[M,Ω]
   ·rw[e] at d;simp only at d;rw[G] at d;cases d
def GY (d:ItS) (x:Int):(s.put1 d x).strs=s.strs/\(s.put1 d x).pks=s.pks:=by
 unfold RmS.put1;split
 ·cases qh s.lanes x with
  | none=>exact⟨rfl,rfl⟩
  | some l=>simp only;split<;>exact⟨rfl,rfl⟩
 ·exact⟨rfl,rfl⟩
def qR.put1 (h:qR P s) (d:ItS) (x:Int) (U:P x d.id) (aa: ¬xM s.strs d.id) (ab:jJ d.pk=ό) (ac:jj d.layer=ό):
  qR (λy i=>P y i/\ ¬(y=x/\i=d.id)) (s.put1 d x):=by
 unfold RmS.put1;by_cases ho:qh s.book (x,d.id)=ϊ 0
 ·rw[ϐ ho];obtain⟨l,I,Y,ad,_⟩:=h.src x d.id ho;rw[I];simp only;obtain⟨H,M,N,O⟩:=Bi l d (h.sub x l I).2.1 Y ad ab ac
  have key:=λE f hf (hq:(xI (xp l d).1++E).Perm ([d.id]++xI l))=>(h.laneN I [d.id] E f hf hq (λi hi=>by
   rw[Δ] at hi;rw[hi]
   exact⟨U,aa,ho⟩) η M N (λe=>by rw[O];exact e)).iff (P':=λy i=>P y i/\ ¬(y=x/\i=d.id)) (λy i=>by simp)
  cases hd:(xp l d).2.2.1 with
  | true=>
   rw[hd] at H;simp only[A0] at H ⊢;exact key [(xp l d).2.1] 6 ζ H
  | false=>
   rw[hd] at H;simp only[Ϯ,C2] at H ⊢;exact key [] 6 ζ H
 ·rw[ώ ho]
  exact⟨h.org,h.nd,h.dis,h.few,h.sub,λy l I i hi=>by obtain⟨a,b,c⟩:=h.owd y l I i hi;exact⟨a,b,λG=>c G.1⟩,λy i J=>by
   obtain⟨l,a,b,c,G⟩:=h.src y i J;refine⟨l,a,b,c, ?_⟩;rcases G with G | G | G
   ·exact ϒ G
   ·exact ϔ (ϒ G)
   ·exact ϔ (ϔ ⟨G,λe=>ho (by rw[<-e.1,<-e.2];exact J)⟩),h.bel⟩
def qR.puts (G:ItS) (H:jJ G.pk=ό) (I:jj G.layer=ό): ∀(L:List Int) {P:Int->Int->Prop} {s:RmS},qR P s->L.Nodup->(∀x∈L,P x G.id)-> ¬xM s.strs G.id->
  qR (λy i=>P y i/\ ¬(y∈L/\i=G.id)) (L.foldl (RmS.put1 G) s)
 | [],P,s,h,_,_,_=>h.iff λy i=>by simp
 | x::L,P,s,h,hn,hP,hh=>by
  rw[D4] at hn;rw[ε];have M:=h.put1 G x (hP x Ϟ) hh H I;refine(qR.puts G H I L M hn.2 (λy J=>⟨hP y (Ϩ _ J),λe=>hn.1 (by rw[<-e.1];exact J)⟩) (by rw[(GY G x).1];exact hh)).iff λy i=> ?_
  rw[ϰ];constructor
  ·rintro⟨⟨a,b⟩,c⟩;exact⟨a,λd=>d.1.elim (λe=>b ⟨e,d.2⟩) (λe=>c ⟨e,d.2⟩)⟩
  ·rintro⟨a,b⟩;exact⟨⟨a,λd=>b ⟨ϒ d.1,d.2⟩⟩,λd=>b ⟨ϔ d.1,d.2⟩⟩
def Bt {b:Jb} {d:Int} (h:xa b d=ό):(thJ (yD b d).1.holds++[(yD b d).2.2.1]).Perm (thJ b.holds):=by
 unfold yD;cases hb:b.holds with
 | nil=>unfold xa at h;rw[hb] at h;cases h
 | cons x T=>
  simp only[h,A0];unfold xT;rw[hb];simp only[thJ,Ϭ];exact List.perm_append_singleton _ _
def XD (h:o∈orgs):jj o.2=ό:=by
 unfold orgs at h;simp only[ϰ,Q3,or_false] at h;rcases h with rfl | rfl | rfl | rfl | rfl | rfl | rfl | rfl | rfl<;>rfl
def qR.order (h:OwO s) (O: ∀a∈s.pks,jJ a.pk=ό):OwO s.order:=by
 unfold RmS.order;cases d:s.ready with
 | none=>exact h
 | some o=>
  simp only;cases ht:qh s.strs o with
  | none=>exact h
  | some t=>
   simp only;have U:xa t.buf s.clock=ό:=by
    have:=R4 d;unfold RmS.readyAt at this;rw[ht] at this;exact this
   have H:=Bt U;obtain⟨I,J,Y⟩:=qR.shrink h (t':={t with buf:=(yD t.buf s.clock).1}) ht [(yD t.buf s.clock).2.2.1] H;have hi:=h.few o t ht _ (H.subset (ϓ _ Ϟ));unfold RmS.orderAt;have N:jJ (s.item o (yD t.buf s.clock).2.2.1).pk=ό:=by
    refine O _ ?_;have G:(yD t.buf s.clock).2.2.1.toNat<s.pks.length:=by omega
    rw[ϑ,ϖ G];exact ϛ G
   refine(qR.puts (s.item o (yD t.buf s.clock).2.2.1) N (XD (h.org o t ht)) subIds I ζ (λx _=>ϔ Ϟ) (J _ Ϟ)).fin λy i M d=> ?_
   obtain⟨a,b⟩:=M;rcases a with a | a
   ·exact a
   ·rw[Δ] at a;exact b ⟨d,a⟩
def qR.drain1s: ∀(L:List Int) {P:Int->Int->Prop} {s:RmS},qR P s->(∀i∈L,∀x l,qh s.lanes x=ϊ l->i∉xI l)->qR (λy i=>P y i/\i∉L) (L.foldl RmS.drain1 s)
 | [],P,s,h,_=>h.iff λy i=>by simp
 | i0::L,P,s,h,hL=>by
  rw[ε]
  have G:qR (λx i=>P x i/\i≠i0) (s.drain1 i0):=h.settled subIds i0 8 ζ (λx H=>by
   obtain⟨l,a,_⟩:=h.src x i0 H
   exact(h.sub x l a).1) (hL i0 Ϟ)
  refine(qR.drain1s L G (λi hi=>hL i (Ϩ _ hi))).iff λy i=> ?_
  rw[ϰ];constructor
  ·rintro⟨⟨a,b⟩,c⟩;exact⟨a,λd=>d.elim b c⟩
  ·rintro⟨a,b⟩;exact⟨⟨a,λd=>b (ϒ d)⟩,λd=>b (ϔ d)⟩
def XG: ∀(n:Nat) (b:Jb),b.holds.length<=n->(Qr n b).holds=[]:=by
 intro n
 induction n with
 | zero=>intro b h;unfold Qr;exact J2.1 τ
 | succ n ih=>
  intro b h;unfold Qr;refine ih _ ?_;unfold xT;cases hb:b.holds with
  | nil=>simp only[hb];simp
  | cons x T=>rw[hb] at h;simp only[ϙ] at h ⊢;omega
def qR.drainO (h:OwO s) (o:Og):OwO (s.drainO o):=by
 unfold RmS.drainO;cases ht:qh s.strs o with
 | none=>exact h
 | some t=>
  simp only;have J:(vP t.buf).holds=[]:=XG _ _ (ϕ _);obtain⟨d,M,N⟩:=qR.shrink h (t':={t with buf:=vP t.buf}) ht (thJ t.buf.holds) (by simp only[J];exact List.Perm.refl _);refine(qR.drain1s (thJ t.buf.holds) d (λi hi x l I H=>(h.owd x l I i H).2.1 ⟨o,t,ht,hi⟩)).fin λy i G _=> ?_
  obtain⟨a,b⟩:=G;exact a.elim id b
def qR.drainOs: ∀(L:List Og) {s:RmS},OwO s->OwO (L.foldl RmS.drainO s)
 | [],_,h=>h
 | o::L,_,h=>qR.drainOs L (qR.drainO h o)
def EI (l:LnS):List Int:=l.W.map Prod.fst++(l.C.map Prod.fst++(l.B.map (λp=>p.1.id)++l.A.map (λx=>x.id)))
def Ra (l:LnS) (x:ItS):List.Sublist (EI (xp l x).1) (EI l++[x.id]):=by
 rcases Rc (s:=l) x with ⟨h,_⟩ | ⟨_,_,_,_,_,h,_⟩
 ·rw[h];exact P6 _ _
 ·rw[h];unfold EI;simp only[ϧ];refine List.Sublist.append (Ϣ _) (List.Sublist.append (Ϣ _) (List.Sublist.append (Ϣ _) ?_));split
  ·rw[Ξ];exact Ϣ _
  ·rw[Ξ];exact List.Sublist.append (List.Sublist.map _ (List.tail_sublist _)) (Ϣ _)
def OL (l:LnS):List.Sublist (EI (jf l).1) (EI l):=by
 rcases XJ (s:=l) with ⟨_,h⟩ | ⟨_,x,A,d,_,h⟩
 ·rw[h];exact Ϣ _
 ·rw[h];unfold EI;rw[d];refine List.Sublist.append (Ϣ _) (List.Sublist.append (Ϣ _) ?_);simp only;split
  ·rw[Ξ,ϧ];exact Ϣ _
  ·exact List.Sublist.append (Ϣ _) (List.sublist_cons_self _ _)
def Ow (l:LnS):List.Sublist (EI (qY l).1) (EI l):=by
 rcases MZ (s:=l) with ⟨_,h⟩ | ⟨x,f,B,d,h⟩
 ·rw[h];exact Ϣ _
 ·rw[h];unfold EI;rw[d];refine List.Sublist.append (Ϣ _) ?_;simp only;have e: ∀C:List (Int×List Int),List.Sublist C l.C->List.Sublist ((C++[(x.id,pkB (kY l.rw x.pk f))]).map Prod.fst++(B.map (λp=>p.1.id)++l.A.map (λx=>x.id))) (l.C.map Prod.fst++(((x,f)::B).map (λp=>p.1.id)++l.A.map (λx=>x.id))):=λC G=>by
   rw[Ξ,ϧ];exact List.Sublist.append (List.Sublist.map _ G) (Ϣ _)
  split
  ·exact e _ (Ϣ _)
  ·exact e _ (List.tail_sublist _)
def Ot (l:LnS) (acc:Bool):List.Sublist (EI (qX l acc).1) (EI l):=by
 rcases uV (s:=l) acc with ⟨_,h⟩ | ⟨o,C,d,h⟩
 ·rw[h];exact Ϣ _
 ·unfold EI;rw[d];rcases h with ⟨_,h⟩ | ⟨_,_,_,h⟩<;>rw[h]
  ·simp only;cases acc
   ·exact Ϣ _
   ·simp
  ·simp only[D5,Ω];exact P6 _ _
def OV (l:LnS) (n:Int):List.Sublist (EI (vh l n)) (EI l):=by
 unfold EI vh;refine List.Sublist.append (Ϣ _) (List.Sublist.append ?_ (List.Sublist.append ?_ ?_))<;>refine List.Sublist.map _ ?_<;>simp only<;>split<;>first | exact List.nil_sublist _ | exact Ϣ _
def OJ (l:LnS) (n:Int):EI (jO l n).1=EI l:=by
 rcases NR (s:=l) n with h | ⟨_,h⟩<;>rw[h]
 rfl
def Yo {s:RdS} {n:Int} (G:0<=n) (h:(tkS s n).2=0):s.2=0/\n<=s.1.length/\((tkS s n).1.length:Int)=s.1.length-n/\((tkB s.1 n).length:Int)=n:=by
 obtain⟨l,e⟩:=s;unfold tkS tkE tkL at *;simp only at h ⊢;split at h
 ·cases h
 ·rename_i H;have d:n<=(l.length:Int):=by
   rcases Int.lt_or_le (l.length:Int) n with c | c
   ·exact ϩ ⟨c,h⟩ H
   ·exact c
  refine⟨h,d, ?_,(uM G d).2⟩;rw[ϣ];omega
def Yw: ∀(n:Nat) {s:RdS},(j9 n s).2.2=0->s.2=0/\4* n<=s.1.length/\(j9 n s).2.1.length=s.1.length-4* n
 | 0,s,h=>⟨h,τ,by show s.1.length=_;omega⟩
 | n+1,s,h=>by
  obtain⟨d,H,a3,_⟩:=Yo (s:=(j9 n s).2) (n:=4) ζ h;obtain⟨G,I,J⟩:=Yw n d;refine⟨G,τ, ?_⟩;show (tkS (j9 n s).2 4).1.length=_;omega
def us: ∀(n:Nat) {s:RdS},Byt s.1->Byt (j9 n s).2.1/\ ∀x∈(j9 n s).1,U32 x
 | 0,s,h=>⟨h,λx d=>by cases d⟩
 | n+1,s,h=>by
  obtain⟨a,b⟩:=us n h;refine⟨a.drop _,λx d=> ?_⟩;rcases ϡ.1 d with c | c
  ·exact b x c
  ·rw[Δ] at c;have G:=JH (s:=(j9 n s).2) a 4 ζ;rw[c];exact⟨G.1,by have:=G.2;show num (tkB (j9 n s).2.1 ((4:Nat):Int))<=4294967295;omega⟩
def EA {f:Int} {s:RdS} (I:Byt s.1) (h:(vB f s).2=0):s.2=0/\(vB f s).1.length<=s.1.length/\Byt (vB f s).1:=by
 unfold vB at *;split at h
 ·rename_i d;exact ϩ h d
 ·rename_i d;rw[ώ d];have H:s.2=0:=Classical.not_not.1 d;split at h
  ·rename_i G;rw[ϐ G];split at h
   ·rename_i J;rw[ϐ J];refine⟨H, ?_⟩;simp only;unfold xL;split
    ·exact⟨Ψ _,xh⟩
    ·split
     ·exact⟨Ψ _,xh⟩
     ·exact⟨by rw[Ϡ];omega,I.take _⟩
   ·cases h
  ·rename_i G;rw[ώ G];exact⟨H,ϕ _,I⟩
def Wz {l:List Int} (h: ∀x∈l,U32 x) (i:Nat):U32 (l.getD i 0):=by
 rw[ϑ];cases hi:l[i]? with
 | none=>exact⟨ζ,ζ⟩
 | some x=>exact h x (List.mem_of_getElem? hi)
def Xc (I:Byt b) (h:(jl b).2=0):uf (jl b).1/\uj (jl b).1/\jJ (jl b).1=ό/\0<=(jl b).1.sq/\(jl b).1.sq<=65535:=by
 rw[<-GP] at h ⊢;unfold Ry at h ⊢;split at h
 ·cases h
 ·rename_i ao;rw[ώ ao];split at h
  ·cases h
  ·rename_i ak;rw[ώ ak];split at h
   ·cases h
   ·rename_i an;rw[ώ an];have J:Byt (b.drop 12):=I.drop 12;have al:Byt (yj (fH b) (b.drop 12,0)).2.1:=by
     unfold yj Qj;split
     ·exact(((us _ J).1.drop _).drop _).drop _
     ·exact(us _ J).1
    have M:(vB (fH b) (yj (fH b) (b.drop 12,0)).2).2=0:=by
     unfold JJ at h;split at h
     ·assumption
     ·rename_i am;exact ϩ h am
    unfold JJ;rw[ϐ M];obtain⟨d,H,p2⟩:=EA al M;have ax:(fH b%16).toNat<=15:=by omega
    have ab:=JH (s:=s2H b) ((I.drop _).drop _) 2 ζ;have ac:=JH (s:=s3H b) (((I.drop _).drop _).drop _) 4 ζ;have ad:=JH (s:=s4H b) ((((I.drop _).drop _).drop _).drop _) 4 ζ;have G:U16 (num (tkB (s2H b).1 2)):=⟨ab.1,by have:=ab.2;show num (tkB (s2H b).1 ((2:Nat):Int))<=65535;omega⟩;have af:U32 (num (tkB (s3H b).1 4)):=⟨ac.1,by have:=ac.2;show num (tkB (s3H b).1 ((4:Nat):Int))<=4294967295;omega⟩;have ae:U32 (num (tkB (s4H b).1 4)):=⟨ad.1,by have:=ad.2;show num (tkB (s4H b).1 ((4:Nat):Int))<=4294967295;omega⟩;have aw:(b.drop 12).length=b.length-12:=ϣ;unfold mkH;by_cases hx:fH b/16%2=1
    ·have e:yj (fH b) (b.drop 12,0)=(((j9 (fH b%16).toNat (b.drop 12,0)).1,(Qj (j9 (fH b%16).toNat (b.drop 12,0)).2).1.1,(Qj (j9 (fH b%16).toNat (b.drop 12,0)).2).1.2),(Qj (j9 (fH b%16).toNat (b.drop 12,0)).2).2):=by
      unfold yj;rw[ϐ hx]
     rw[e] at d H p2 M ⊢;obtain⟨N,aa⟩:=us (fH b%16).toNat (s:=(b.drop 12,0)) J;have ap:=gN (fH b%16).toNat (b.drop 12,0);have Y:=λh=>Yw (fH b%16).toNat (s:=(b.drop 12,0)) h
     generalize j9 (fH b%16).toNat (b.drop 12,0)=r at *;have ag:=JH (s:=r.2) N 2 ζ;have aq:=JH (s:=tkS r.2 2) (N.drop _) 2 ζ;unfold Qj at d H p2 ⊢;simp only at d H p2 ⊢;obtain⟨ah,ar,a3,a4⟩:=Yo (by have:=aq.1;show 0<=4* num (tkB (tkS r.2 2).1 ((2:Nat):Int));omega) d;obtain⟨ai,au,av,_⟩:=Yo ζ ah;obtain⟨c1,c2,c3,_⟩:=Yo ζ ai;obtain⟨aj,O,U⟩:=Y c1;simp only at O U;refine⟨⟨by simp only;omega,G,af,ae,Wz aa,⟨ag.1,by have:=ag.2;show num (tkB r.2.1 ((2:Nat):Int))<=65535;omega⟩,jL ((N.drop _).drop _) _,p2⟩,⟨by simp only;omega,by simp only;omega,by simp only;omega⟩, ?_,G.1,G.2⟩;rw[yq];refine⟨by simp only;omega,by simp only;omega,λc=> ?_,by simp only;omega, ?_⟩
     ·simp only[decide_eq_false_iff_not] at c;exact ϩ hx c
     ·unfold ww;simp only[hx,decide_true,A0];omega
    ·have e:yj (fH b) (b.drop 12,0)=(((j9 (fH b%16).toNat (b.drop 12,0)).1,0,[]),(j9 (fH b%16).toNat (b.drop 12,0)).2):=by
      unfold yj;rw[ώ hx]
     rw[e] at d H p2 M ⊢;obtain⟨N,aa⟩:=us (fH b%16).toNat (s:=(b.drop 12,0)) J;have ap:=gN (fH b%16).toNat (b.drop 12,0);have Y:=λh=>Yw (fH b%16).toNat (s:=(b.drop 12,0)) h
     generalize j9 (fH b%16).toNat (b.drop 12,0)=r at *;simp only at d H p2 ⊢;obtain⟨aj,O,U⟩:=Y d;simp only at O U;refine⟨⟨by simp only;omega,G,af,ae,Wz aa,(⟨ζ,ζ⟩:U16 0),xh,p2⟩,⟨by simp only;omega,η,by simp only;omega⟩, ?_,G.1,G.2⟩;rw[yq];refine⟨by simp only;omega,by simp only;omega,λc=>⟨rfl,rfl⟩,η, ?_⟩;unfold ww;simp only[hx,decide_false,Ϯ,C2];omega
def ZM (id:Int) (G:0<=id) (k:Int×Int): ∀(L:List Int) (b:Bk),(∀x∈L,0<=x/\x<6)->(∀x,qh b (x,id)=ϋ∨qh b (x,id)=ϊ 0)->qh (Ji b L id) k=if k.2=id/\k.1∈L then ϊ 0 else qh b k
 | [],b,_,_=>by simp[Ji]
 | x::L,b,hL,hb=>by
  have d: ∀k,qh (vT b (x,id)).1 k=if k=(x,id) then ϊ 0 else qh b k:=by
   intro k;unfold vT;rw[ϐ ⟨(hL x Ϟ).1,(hL x Ϟ).2,G⟩];rcases hb x with h | h
   ·rw[h];simp only[Option.isSome_none,Ϯ,C2];rw[qF]
   ·rw[h];simp only[Option.isSome_some,A0];split
    ·rename_i e;rw[e,h]
    ·rfl
  have H:=ZM id G k L (vT b (x,id)).1 (λy J=>hL y (Ϩ _ J)) (λy=>by
   rw[d];split
   ·exact ϔ rfl
   ·exact hb y)
  unfold Ji at H ⊢;rw[ε,H,d];obtain⟨I,M⟩:=k;by_cases e:M=id<;>by_cases e2:I=x<;>by_cases e3:I∈L<;>simp[e,e2,e3]
  all_goals (simp_all)
def Pa (b:Jb) (n d x:Int):((jP b n d x).2=0->(thJ (jP b n d x).1.holds).Perm (x::thJ b.holds))/\((jP b n d x).2≠0->(jP b n d x).1=b):=by
 unfold jP;split
 ·exact⟨λe=>by simp at e,λ_=>rfl⟩
 ·split
  ·exact⟨λe=>by simp at e,λ_=>rfl⟩
  ·split
   ·exact⟨λe=>by simp at e,λ_=>rfl⟩
   ·refine⟨λ_=> ?_,λe=>ϩ rfl e⟩;simp only;unfold ue thJ;rw[Ξ,Ϭ];refine(List.perm_middle).trans (List.Perm.cons _ ?_);rw[<-Ξ,A9]
def Pb (b:Jb) (n d x:Int):(yY (jP b n d x).2=0↔(jP b n d x).2=0)/\0<=yY (jP b n d x).2/\yY (jP b n d x).2<=8:=by
 unfold jP
 repeat' split
 all_goals (simp[yY])
def DU (s:RmS):Prop:= ∀x sb,qh s.tab.u x=ϊ sb->sb.2.1=ό-> ∃l,qh s.lanes x=ϊ l/\l.gone=ύ/\l.wanted=ό
def mem_prR {d:Sb->Bool} {u:List (Int×Sb)}:x∈prR d u↔x∈subIds/\ ∃sb,qh u x=ϊ sb/\d sb=ό:=by
 unfold prR;rw[G6];refine and_congr Iff.rfl ?_;cases qh u x with
 | none=>simp
 | some sb=>simp
def subIds_iff:x∈subIds↔0<=x/\x<6:=by
 unfold subIds;simp only[ϰ,Q3,or_false];omega
def qR.accept (h:OwO s) (ah:DU s) (o:Og) (p:Pk):OwO (s.accept o p):=by
 unfold RmS.accept;cases ht:qh s.strs o with
 | none=>exact h
 | some t=>
  simp only;have af: ∀x,qh s.book (x,(s.pks.length:Int))=ϋ:=λx=>by
   cases N:qh s.book (x,(s.pks.length:Int)) with
   | none=>rfl
   | some v=>have:=(h.bel x _ v N).2;omega
  have ag: ∀x∈prR (j8 o.1) s.tab.u,0<=x/\x<6:=λx d=>subIds_iff.1 (mem_prR.1 d).1
  have J:=λk=>ZM (s.pks.length:Int) τ k _ s.book ag (λx=>ϒ (af x))
  have ab:qR (λ_ i=>i=(s.pks.length:Int)) {s with pks:=s.pks++[⟨o,yV t p.sq,p⟩],book:=Ji s.book (prR (j8 o.1) s.tab.u) s.pks.length}:=by
   refine⟨h.org,h.nd,h.dis,λY u aj i hi=> ?_,h.sub,λx l O i hi=> ?_,λx i d=> ?_,λx i v M=> ?_⟩
   ·have:=h.few Y u aj i hi;simp only[Ϗ,ϙ,Ϫ];omega
   ·obtain⟨a,b,_⟩:=h.owd x l O i hi;have aq:=(h.bel x i 0 a).2;refine⟨?_,b,λe=>by omega⟩;simp only;rw[J,ώ (λc=>by have:=c.1;simp only at this;omega)];exact a
   ·simp only at d ⊢;rw[J] at d;split at d
    ·rename_i H;obtain⟨ad,ae⟩:=H;simp only at ad ae;obtain⟨an,ak,U⟩:=(mem_prR.1 ae).2;unfold j8 at U;rw[B9] at U;obtain⟨l,a,b,c⟩:=ah x an ak U.1;exact⟨l,a,b,c,ϔ (ϔ ad)⟩
    ·obtain⟨l,a,b,c,G⟩:=h.src x i d;exact⟨l,a,b,c,G.elim ϒ λG=>G.elim (λG=>ϔ (ϒ G)) False.elim⟩
   ·simp only at M ⊢;rw[J] at M;simp only[Ϗ,ϙ,Ϫ];split at M
    ·rename_i H;have:=H.1;simp only at this;omega
    ·have:=h.bel x i v M;omega
  have ai: ¬xM s.strs (s.pks.length:Int):=λ⟨Y,u,a,b⟩=>by have:=(h.few Y u a _ b).2;omega
  have ac: ∀x l,qh s.lanes x=ϊ l->(s.pks.length:Int)∉xI l:=λx l O hi=>by
   have:=(h.bel x _ 0 (h.owd x l O _ hi).1).2;omega
  obtain⟨al,am⟩:=Pa t.buf (yV t p.sq) s.clock s.pks.length;obtain⟨aa,ao,ap⟩:=Pb t.buf (yV t p.sq) s.clock s.pks.length;by_cases hf:yY (jP t.buf (yV t p.sq) s.clock s.pks.length).2=0
  ·rw[ϐ hf];exact((ab.grow (t':=Ye t p s.clock s.pks.length) ht (s.pks.length:Int) (al (aa.1 hf)) (by simp only[Ϗ,ϙ,Ϫ];omega) ai ac).fin (λy i I _=>I.2 I.1)).same rfl rfl rfl rfl
  ·rw[ώ hf];have N:(Ye t p s.clock s.pks.length).buf.holds=t.buf.holds:=by
    unfold Ye;simp only;rw[am (λe=>hf (aa.2 e))]
   refine((((ab.keep (t':=Ye t p s.clock s.pks.length) ht N).settled (prR (j8 o.1) s.tab.u) (s.pks.length:Int) (yY (jP t.buf (yV t p.sq) s.clock s.pks.length).2) τ (λx d=> ?_) ac)).fin (λy i I _=>I.2 I.1)).same rfl rfl rfl rfl;simp only at d;rw[J] at d;split at d
   ·rename_i H;exact H.2
   ·rw[af x] at d;cases d
def qR.tell1 (h:qR P s) (x:Int):qR P (s.tell1 x):=by
 unfold RmS.tell1;cases qh s.tab.u x with
 | none=>exact h
 | some sb=>
  simp only;split
  ·cases qh s.lanes x with
   | none=>exact h
   | some l=>
    simp only;split
    ·cases ht:qh s.strs (sb.2.2,l.cur) with
     | none=>exact h
     | some t=>exact h.keep ht rfl
    ·exact h
  ·exact h
def kS {Q:RmS->Prop} (d: ∀s x,Q s->Q (f s x)): ∀(L:List α) (s:RmS),Q s->Q (L.foldl f s)
 | [],_,h=>h
 | x::L,s,h=>kS d L (f s x) (d s x h)
def qR.tell (h:qR P s) (b:List Int):qR P (s.tell b):=by
 unfold RmS.tell;split
 ·refine kS (λs x h=> ?_) _ _ (h.same rfl rfl rfl rfl);unfold RmS.tellS;exact kS (Q:=qR P) (λs x h=>qR.tell1 h x) _ _ h
 ·exact h.same rfl rfl rfl rfl
def qR.read (h:OwO s) (G:DU s):OwO s.read:=by
 unfold RmS.read;cases s.queue with
 | nil=>exact h
 | cons b q=>
  simp only;have d:OwO {s with queue:=q}:=qR.same h rfl rfl rfl rfl;split
  ·exact qR.tell d b
  ·unfold RmS.media;split
   ·cases qh s.tab.o (jl b).1.sc with
    | none=>exact qR.same d rfl rfl rfl rfl
    | some o=>exact qR.accept d G o _
   ·exact qR.same d rfl rfl rfl rfl
def qR.tick (h:qR P s):qR P s.tick.1:=by
 unfold RmS.tick;split
 ·exact h
 ·refine kS (λs o h=> ?_) _ _ (h.same rfl rfl rfl rfl);unfold RmS.tick1;cases ht:qh s.strs o with
  | none=>exact h
  | some t=>
   simp only;split
   ·exact(h.keep (t':={t with asks:=(vU s.cfg.space s.cfg.retry t.asks (s.wants o) s.clock).1}) ht rfl).same rfl rfl rfl rfl
   ·exact h.keep ht rfl
def qR.publish (h:qR P s) (p:Int) (M:0<=p/\p<3) (d: ∀k,qh s.strs (p,k)=ϋ):qR P {s with strs:=qx (qx (qx s.strs (p,0) (uc s.cfg)) (p,1) (uc s.cfg)) (p,2) (uc s.cfg)}:=by
 have G: ∀k,0<=k/\k<3->(p,k)∈orgs:=λk J=>by
  have H:p=0∨p=1∨p=2:=by omega
  have I:k=0∨k=1∨k=2:=by omega
  rcases H with rfl | rfl | rfl<;>rcases I with rfl | rfl | rfl<;>decide
 refine(((h.strNew (G 0 ζ) (d 0) (t':=uc s.cfg) rfl).strNew (G 1 ζ) ?_ (t':=uc s.cfg) rfl).strNew (G 2 ζ) ?_ (t':=uc s.cfg) rfl).same rfl rfl rfl rfl
 ·show qh (qx s.strs (p,0) _) _=ϋ;rw[vF _ _ (λe=>by have:=ϯ Prod.snd e;simp at this)];exact d 1
 ·show qh (qx (qx s.strs (p,0) _) (p,1) _) _=ϋ;rw[vF _ _ (λe=>by have:=ϯ Prod.snd e;simp at this),vF _ _ (λe=>by have:=ϯ Prod.snd e;simp at this)];exact d 2
def qR.join (h:qR P s) (J:x∈subIds) (G:qh s.lanes x=ϋ) (H:1<=l.room) (hi:xI l=[]):qR P {s with lanes:=qx s.lanes x l}:=
 h.endL x (L:=qx s.lanes x l) (b:=s.book) (λy M=>vF _ _ M) (λm d=>by
  rw[xD] at d;injection d with e
  subst e;exact⟨J,H,hi⟩) (λ_ _ _=>rfl) (λi e=>by
  obtain⟨N,a,_⟩:=h.src x i e;rw[G] at a
  cases a) (λi v I=>⟨v,I⟩)
def qR.leave (h:qR P s) (x:Int):qR P {s with lanes:=Yh s.lanes x,book:=vM s.book x 7}:=
 h.endL x (L:=Yh s.lanes x) (b:=vM s.book x 7) (λy d=>by rw[uR,ώ d]) (λm G=>by
  rw[uR,ϐ rfl] at G
  cases G) (λy i d=>XH _ i 7 d) (λi=>VR _ x i ζ) (λi v H=>VQ _ x i 7 v H)
def Xv (l:LnS) (k:Int):xI (jO l k).1=xI l/\(jO l k).1.room=l.room/\(jO l k).1.gone=l.gone/\(l.wanted=ό->(jO l k).1.wanted=ό):=by
 unfold jO;split
 ·exact⟨rfl,rfl,rfl,λe=>e⟩
 ·split
  ·exact⟨rfl,rfl,rfl,λe=>e⟩
  ·exact⟨rfl,rfl,rfl,λ_=>rfl⟩
def qR.wantL (h:qR P s) (J:qh s.lanes x=ϊ l) (k:Int):qR P {s with lanes:=qx s.lanes x (jO l k).1}:=by
 obtain⟨d,G,H,I⟩:=Xv l k;exact h.lane J [] 1 ζ (by rw[d,Ω]) G H I
def vJ [DecidableEq K] {k:K} (v:V): ∀{m:List (K×V)},(qh m k).isSome=ό->(qx m k v).length=m.length
 | [],h=>by simp[qh] at h
 | (a,b)::l,h=>by
  unfold qx;unfold qh at h;by_cases e:k=a
  ·rw[ϐ e];rfl
  ·rw[ώ e] at h ⊢;rw[ϙ,vJ v h,ϙ]
def Qz [DecidableEq K] (k:K) (v:V): ∀(m:List (K×V)),(qx m k v).length<=m.length+1
 | []=>by simp[qx]
 | (a,b)::l=>by
  unfold qx;split
  ·simp
  ·have:=Qz k v l;simp only[ϙ];omega
def xm [DecidableEq K] (g:V->α) {m:List (K×V)} {k:K} {u v:V} (h:qh m k=ϊ u) (e:g v=g u) (x:K):(qh (qx m k v) x).map g=(qh m x).map g:=by
 rw[qF];by_cases c:x=k
 ·rw[ϐ c,c,h];exact ϯ ϊ e
 ·rw[ώ c]
def zq (b:Bk) (x id f:Int):(jp b x id f).length=b.length:=by
 unfold jp zi
 repeat' split
 all_goals first | rfl | exact vJ _ (by assumption)
def gW (x f:Int): ∀(E:List Int) (b:Bk),(E.foldl (λb id=>jp b x id f) b).length=b.length
 | [],_=>rfl
 | id::E,b=>by rw[ε,gW x f E,zq]
def vQ (id f:Int): ∀(E:List Int) (b:Bk),(xG b E id f).length=b.length
 | [],_=>rfl
 | x::E,b=>by
  have:=vQ id f E (jp b x id f);unfold xG at this ⊢;rw[ε,this,zq]
structure Loc (s s':RmS):Prop where
 cfg:s'.cfg=s.cfg
 closed:s'.closed=s.closed
 ret:s'.ret=s.ret
 clock:s'.clock=s.clock
 queue:s'.queue=s.queue
 tab:s'.tab=s.tab
 pks:s'.pks=s.pks
 reqs:s'.reqs=s.reqs
 cnt:s'.cnt=s.cnt
 book:s'.book.length=s.book.length
 lanes: ∀x,(qh s'.lanes x).map (λl=>(l.gone,l.wanted,l.W))=(qh s.lanes x).map λl=>(l.gone,l.wanted,l.W)
 strs: ∀o,(qh s'.strs o).map (λt=>(t.any,t.great,t.asks))=(qh s.strs o).map λt=>(t.any,t.great,t.asks)
def Loc.refl (s:RmS):Loc s s:=⟨rfl,rfl,rfl,rfl,rfl,rfl,rfl,rfl,rfl,rfl,λ_=>rfl,λ_=>rfl⟩
def Loc.trans {s'':RmS} (h:Loc s s') (k:Loc s' s''):Loc s s'':=
 ⟨k.cfg.trans h.cfg,k.closed.trans h.closed,k.ret.trans h.ret,k.clock.trans h.clock,k.queue.trans h.queue,k.tab.trans h.tab,k.pks.trans h.pks,k.reqs.trans h.reqs,k.cnt.trans h.cnt,k.book.trans h.book,λx=>(k.lanes x).trans (h.lanes x),λo=>(k.strs o).trans (h.strs o)⟩
def za (d: ∀s x,Loc s (f s x)): ∀(L:List α) (s:RmS),Loc s (L.foldl f s)
 | [],s=>Loc.refl s
 | x::L,s=>(d s x).trans (za d L (f s x))
def Gz (s:RmS) (x:Int):Loc s (s.tell1 x):=by
 unfold RmS.tell1;cases qh s.tab.u x with
 | none=>exact Loc.refl s
 | some sb=>
  simp only;split
  ·cases qh s.lanes x with
   | none=>exact Loc.refl s
   | some l=>
    simp only;split
    ·cases ht:qh s.strs (sb.2.2,l.cur) with
     | none=>exact Loc.refl s
     | some t=>exact⟨rfl,rfl,rfl,rfl,rfl,rfl,rfl,rfl,rfl,rfl,λ_=>rfl,xm _ ht rfl⟩
    ·exact Loc.refl s
  ·exact Loc.refl s
def ko (L:List Int) (s:RmS):Loc s (L.foldl RmS.tellS s):=za (λs _=>za Gz _ s) L s
def ZE (l:LnS) (d:ItS):((xp l d).1.gone,(xp l d).1.wanted,(xp l d).1.W)=(l.gone,l.wanted,l.W):=by
 unfold xp yX
 repeat' split
 all_goals rfl
def Bj (d:ItS) (s:RmS) (x:Int):Loc s (s.put1 d x):=by
 unfold RmS.put1;split
 ·cases hl:qh s.lanes x with
  | none=>exact Loc.refl s
  | some l=>
   simp only;split
   ·exact⟨rfl,rfl,rfl,rfl,rfl,rfl,rfl,rfl,rfl,zq _ _ _ _,xm _ hl (ZE l d),λ_=>rfl⟩
   ·exact⟨rfl,rfl,rfl,rfl,rfl,rfl,rfl,rfl,rfl,rfl,xm _ hl (ZE l d),λ_=>rfl⟩
 ·exact Loc.refl s
def kr (s:RmS):Loc s s.order:=by
 unfold RmS.order;cases s.ready with
 | none=>exact Loc.refl s
 | some o=>
  simp only;cases ht:qh s.strs o with
  | none=>exact Loc.refl s
  | some t=>
   have h:Loc s {s with strs:=qx s.strs o {t with buf:=(yD t.buf s.clock).1}}:=⟨rfl,rfl,rfl,rfl,rfl,rfl,rfl,rfl,rfl,rfl,λ_=>rfl,xm _ ht rfl⟩;exact h.trans (za (Bj _) _ _)
def vu (s:RmS) (x:Int):Loc s (s.choose x):=by
 unfold RmS.choose;cases hl:qh s.lanes x with
 | none=>exact Loc.refl s
 | some l=>
  refine⟨rfl,rfl,rfl,rfl,rfl,rfl,rfl,rfl,rfl, ?_,xm _ hl ?_,λ_=>rfl⟩
  ·simp only;split
   ·exact zq _ _ _ _
   ·rfl
  ·rcases XJ l with ⟨_,e⟩ | ⟨_,x,A,_,_,e⟩<;>rw[e]
def yA (s:RmS) (x:Int):Loc s (s.rewrite x):=by
 unfold RmS.rewrite;cases hl:qh s.lanes x with
 | none=>exact Loc.refl s
 | some l=>
  refine⟨rfl,rfl,rfl,rfl,rfl,rfl,rfl,rfl,rfl, ?_,xm _ hl ?_,λ_=>rfl⟩
  ·simp only;split
   ·exact zq _ _ _ _
   ·rfl
  ·rcases MZ l with ⟨_,e⟩ | ⟨x,f,B,_,e⟩<;>rw[e]
def OM (s:RmS) (w:Og):Loc s (s.drainL w):=by
 unfold RmS.drainL;cases hl:qh s.lanes w.2 with
 | none=>exact Loc.refl s
 | some l=>exact⟨rfl,rfl,rfl,rfl,rfl,rfl,rfl,rfl,rfl,gW _ _ _ _,xm _ hl rfl,λ_=>rfl⟩
def vn (s:RmS) (o:Og):Loc s (s.drainO o):=by
 unfold RmS.drainO;cases ht:qh s.strs o with
 | none=>exact Loc.refl s
 | some t=>
  have h:Loc s {s with strs:=qx s.strs o {t with buf:=vP t.buf}}:=⟨rfl,rfl,rfl,rfl,rfl,rfl,rfl,rfl,rfl,rfl,λ_=>rfl,xm _ ht rfl⟩;exact h.trans (za (f:=RmS.drain1) (λs i=>⟨rfl,rfl,rfl,rfl,rfl,rfl,rfl,rfl,rfl,(vQ i 8 subIds s.book:(xG s.book subIds i 8).length=s.book.length),λ_=>rfl,λ_=>rfl⟩) _ _)
def uu {β:Type} {f:α->β} {b:Option α} (h:a.map f=b.map f) {x:α} (d:a=ϊ x): ∃y,b=ϊ y/\f x=f y:=by
 rw[d] at h;cases b with
 | none=>cases h
 | some y=>exact⟨y,rfl,by injection h⟩
def yt {β:Type} {f:α->β} {b:Option α} (h:a.map f=b.map f):a.isSome=b.isSome:=by
 have:=ϯ Option.isSome h
 simpa using this
structure Gm (s:RmS):Prop where
 keys: ∀x,(qh s.tab.u x).isSome=ό->0<=x/\x<6
 lane: ∀x,(qh s.tab.u x).isSome=(qh s.lanes x).isSome
 act:DU s
 pub: ∀x sb,qh s.tab.u x=ϊ sb->sb.2.1=ό->(qh s.tab.s (sb.2.2,0)).isSome=ό
 str: ∀p n,jj n=ό->(qh s.strs (p,n)).isSome=(qh s.tab.s (p,0)).isSome
 org: ∀x o,qh s.tab.o x=ϊ o->(qh s.strs o).isSome=ό
 src: ∀o v,qh s.tab.s o=ϊ v->0<=v/\v<=4294967295
def Gm.loc (h:Gm s) (d:s'.tab=s.tab) (I: ∀x,(qh s'.lanes x).map (λl=>(l.gone,l.wanted))=(qh s.lanes x).map λl=>(l.gone,l.wanted)) (J: ∀o,(qh s'.strs o).isSome=(qh s.strs o).isSome):Gm s':=by
 refine⟨by rw[d];exact h.keys,λx=>by rw[d,yt (I x)];exact h.lane x,λx O G M=> ?_,by rw[d];exact h.pub,λp n N=>by rw[d,J];exact h.str p n N,λx o H=>by rw[d] at H;rw[J];exact h.org x o H,by rw[d];exact h.src⟩;rw[d] at G;obtain⟨l,a,b,c⟩:=h.act x O G M;obtain⟨l',a',e⟩:=uu (I x).symm a;simp only[C3] at e;exact⟨l',a',by rw[<-e.1];exact b,by rw[<-e.2];exact c⟩
def Loc.tb (h:Loc s s') (k:Gm s):Gm s':=
 k.loc h.tab (λx=>by have:=ϯ (Option.map λp:Bool×Bool×List (Int×List Int)=>(p.1,p.2.1)) (h.lanes x);rw[Option.map_map,Option.map_map] at this;exact this) (λo=>yt (h.strs o))
structure JR (n:Nat) (s:RmS):Prop where
 cfg:xY s.cfg=ό
 malf:0<=s.cnt.malf/\s.cnt.malf<=n
 told:0<=s.cnt.told/\s.cnt.told<=n
 strange:0<=s.cnt.strange/\s.cnt.strange<=n
 acc:s.cnt.acc=s.pks.length
 lost:0<=s.cnt.lost/\s.cnt.lost<=9* n
 pks:s.pks.length<=n
 clock:0<=s.clock/\s.clock<=n
 great: ∀o t,qh s.strs o=ϊ t->t.any=ό->65536<=t.great/\t.great<=65536* (n+2)
 asks: ∀o t,qh s.strs o=ϊ t->0<=t.asks.tries/\t.asks.tries<=9* n/\0<=t.asks.last/\t.asks.last<=n
 queue: ∀b∈s.queue,Byt b/\b.length<=400
 fit:(s.queue.length:Int)<=s.cfg.room
 pkok: ∀a∈s.pks,uf a.pk/\uj a.pk/\jJ a.pk=ό
 few:s.tab.u.length<=n
 wr: ∀x l,qh s.lanes x=ϊ l->l.W.length<=n
 book:s.book.length<=6* n
 reqs:s.reqs.length<=9* n
def JR.up (h:JR n s):JR (n+1) s:=by
 obtain⟨d,ab,ac,ad,N,ae,af,ag,O,G,H,I,J,U,M,Y,aa⟩:=h;exact⟨d,τ,τ,τ,N,τ,τ,τ,λo t a b=>by have:=O o t a b;omega,λo t a=>by have:=G o t a;omega,H,I,J,τ,λx l a=>by have:=M x l a;omega,τ,τ⟩
def Loc.num (h:Loc s s') (k:JR n s):JR n s':=by
 obtain⟨d,Y,aa,ab,ac,ad,ae,af,ag,G,H,I,J,M,N,O,U⟩:=k;refine⟨by rw[h.cfg];exact d,by rw[h.cnt];exact Y,by rw[h.cnt];exact aa,by rw[h.cnt];exact ab,by rw[h.cnt,h.pks];exact ac,by rw[h.cnt];exact ad,by rw[h.pks];exact ae,by rw[h.clock];exact af,λo t a b=> ?_,λo t a=> ?_,by rw[h.queue];exact H,by rw[h.queue,h.cfg];exact I,by rw[h.pks];exact J,by rw[h.tab];exact M,λx l a=> ?_,by rw[h.book];exact O,by rw[h.reqs];exact U⟩
 ·obtain⟨t',e,f⟩:=uu (h.strs o) a;simp only[C3] at f;rw[f.2.1];exact ag o t' e (by rw[<-f.1];exact b)
 ·obtain⟨t',e,f⟩:=uu (h.strs o) a;simp only[C3] at f;rw[f.2.2];exact G o t' e
 ·obtain⟨l',e,f⟩:=uu (h.lanes x) a;simp only[C3] at f;rw[f.2.2];exact N x l' e
structure qV (n:Nat) (s:RmS):Prop where
 ow:OwO s
 tb:Gm s
 num:JR n s
def qV.up (h:qV n s):qV (n+1) s:=⟨h.ow,h.tb,h.num.up⟩
def Loc.ok (h:Loc s s') (k:qV n s) (o:OwO s'):qV n s':=⟨o,h.tb k.tb,h.num k.num⟩
def kF {c:CfR} (h:xY c=ό):(1<=c.room/\c.room<=8)/\Ok c.hold c.wait/\(1<=c.space/\c.space<=c.retry/\c.retry<=1000)/\1<=c.most/\c.most<=10:=by
 unfold xY at h;simp only[B9,C4] at h;exact h
structure Tk (m:Nat) (now:Int) (s s':RmS):Prop where
 cfg:s'.cfg=s.cfg
 queue:s'.queue=s.queue
 tab:s'.tab=s.tab
 pks:s'.pks=s.pks
 cnt:s'.cnt=s.cnt
 book:s'.book=s.book
 lanes:s'.lanes=s.lanes
 clock:s'.clock=s.clock
 reqs:s'.reqs.length<=s.reqs.length+m
 strs: ∀o,(qh s'.strs o).map (λt=>(t.any,t.great))=(qh s.strs o).map λt=>(t.any,t.great)
 asks: ∀o t',qh s'.strs o=ϊ t'-> ∃t,qh s.strs o=ϊ t/\((0<=t.asks.tries->0<=t'.asks.tries)/\t'.asks.tries<=(if 0<=t.asks.tries then t.asks.tries else 0)+m/\(t'.asks.last=t.asks.last∨t'.asks.last=now))
def Ay (s:RmS) (o:Og):Tk 1 s.clock s (s.tick1 o):=by
 have d:Tk 1 s.clock s s:=⟨rfl,rfl,rfl,rfl,rfl,rfl,rfl,rfl,τ,λ_=>rfl,λo t' h=>⟨t',h,λe=>e,by split<;>omega,ϒ rfl⟩⟩;unfold RmS.tick1;cases ht:qh s.strs o with
 | none=>exact d
 | some t=>
  simp only;have key: ∀o2 t',qh (qx s.strs o {t with asks:=(vU s.cfg.space s.cfg.retry t.asks (s.wants o) s.clock).1}) o2=ϊ t'-> ∃t,qh s.strs o2=ϊ t/\((0<=t.asks.tries->0<=t'.asks.tries)/\t'.asks.tries<=(if 0<=t.asks.tries then t.asks.tries else 0)+1/\(t'.asks.last=t.asks.last∨t'.asks.last=s.clock)):=by
   intro o2 t' h;rw[qF] at h;split at h
   ·rename_i e;injection h with e2
    subst e e2;refine⟨t,ht, ?_⟩;simp only;unfold vU uq;split
    ·refine⟨λe=> ?_, ?_,ϒ rfl⟩
     ·simp only;split<;>omega
     ·simp only;split<;>split<;>omega
    ·refine⟨λe=> ?_, ?_,ϔ rfl⟩
     ·simp only;split<;>omega
     ·simp only;split<;>split<;>omega
   ·exact⟨t',h,λe=>e,by split<;>omega,ϒ rfl⟩
  split
  ·exact⟨rfl,rfl,rfl,rfl,rfl,rfl,rfl,rfl,by unfold RmS.request;simp,xm _ ht rfl,key⟩
  ·exact⟨rfl,rfl,rfl,rfl,rfl,rfl,rfl,rfl,η,xm _ ht rfl,key⟩
def ur: ∀(L:List Og) (s:RmS),Tk L.length s.clock s (L.foldl RmS.tick1 s)
 | [],s=>⟨rfl,rfl,rfl,rfl,rfl,rfl,rfl,rfl,η,λ_=>rfl,λo t' h=>⟨t',h,λe=>e,by split<;>omega,ϒ rfl⟩⟩
 | o::L,s=>by
  rw[ε];have h:=Ay s o;have k:=ur L (s.tick1 o);rw[h.clock] at k;refine⟨k.cfg.trans h.cfg,k.queue.trans h.queue,k.tab.trans h.tab,k.pks.trans h.pks,k.cnt.trans h.cnt,k.book.trans h.book,k.lanes.trans h.lanes,by rw[k.clock,h.clock], ?_,λo=>(k.strs o).trans (h.strs o),λo2 t' N=> ?_⟩
  ·have:=k.reqs;have:=h.reqs;rw[ϙ];omega
  ·obtain⟨t1,G,I,c1,d⟩:=k.asks o2 t' N;obtain⟨t0,a0,H,J,M⟩:=h.asks o2 t1 G;refine⟨t0,a0,λe=>I (H e), ?_, ?_⟩
   ·rw[ϙ];split at c1<;>split at J<;>split<;>omega
   ·rcases d with d | d
    ·rw[d];exact M
    ·exact ϔ d
def uC (s:RmS):s.origins.length<=9:=Ϙ (C8 _ _) ζ
def qV.tick (h:qV n s):qV (n+1) s.tick.1:=by
 have I:=h.ow.tick;unfold RmS.tick at I ⊢;split
 ·exact h.up
 ·rename_i am;rw[ώ am] at I;have k:=ur s.origins {s with clock:=s.clock+1};have ay:=uC s;obtain⟨ae,aq,ar,au,ak,av,aw,ax,al,af,ag,ah,ai,an,aj,ao,ap⟩:=h.num;simp only at k I ⊢;generalize List.foldl RmS.tick1 {s with clock:=s.clock+1} s.origins=s' at *;have J:=k.cfg;have M:=k.queue;have N:=k.tab;have H:=k.pks;have d:=k.cnt;have U:=k.book;have O:=k.lanes;have Y:=k.clock;have ad:=k.reqs;simp only at J M N H d U O Y ad;refine⟨I,h.tb.loc N (λx=>by rw[O]) (λo=>yt (k.strs o)),⟨by rw[J];exact ae,by rw[d];omega,by rw[d];omega,by rw[d];omega,by rw[d,H];exact ak,by rw[d];omega,by rw[H];omega,by rw[Y];omega,λo t a b=> ?_,λo t a=> ?_,by rw[M];exact ag,by rw[J,M];exact ah,by rw[H];exact ai,by rw[N];omega,λx l a=> ?_,by rw[U];omega,τ⟩⟩
  ·obtain⟨t',e,f⟩:=uu (k.strs o) a;simp only[C3] at f;have:=al o t' e (by rw[<-f.1];exact b);rw[f.2];omega
  ·obtain⟨t0,a0,ab,ac,G⟩:=k.asks o t a;obtain⟨aa,az,aA,aB⟩:=af o t0 a0;rw[ϐ aa] at ac;refine⟨ab aa,τ, ?_⟩;rcases G with G | G<;>rw[G]<;>omega
  ·rw[O] at a;have:=aj x l a;omega
def qV.order (h:qV n s):qV n s.order:=(kr s).ok h (qR.order h.ow λa d=>(h.num.pkok a d).2.2)
def qV.choose (h:qV n s) (x:Int):qV n (s.choose x):=(vu s x).ok h (h.ow.choose x)
def qV.rewrite (h:qV n s) (x:Int):qV n (s.rewrite x):=(yA s x).ok h (h.ow.rewrite x)
def IG (d sq:Int):d-32768<=KH d sq/\KH d sq<=d+32767:=by
 unfold KH ahd;omega
def WS {sq:Int} (d:0<=sq/\sq<=65535) (h:t.any=ό->65536<=t.great/\t.great<=65536* (n+2)):32768<=yV t sq/\yV t sq<=65536* ((n+1:Nat)+2)/\(t.any=ύ->65536<=yV t sq):=by
 unfold yV;cases ha:t.any with
 | true=>
  have:=h ha;have:=IG t.great sq;simp only[A0];refine⟨τ,τ,λe=>(by cases e)⟩
 | false=>
  simp only[Ϯ,C2];refine⟨τ,τ,λ_=>by omega⟩
def Vu (id:Int): ∀(L:List Int) (b:Bk),(Ji b L id).length<=b.length+L.length
 | [],b=>by simp[Ji]
 | x::L,b=>by
  have h:=Vu id L (vT b (x,id)).1;have d:(vT b (x,id)).1.length<=b.length+1:=by
   unfold vT
   repeat' split
   all_goals first | exact Qz _ _ _ | exact J5 _
  unfold Ji at h ⊢;rw[ε,ϙ];omega
def qV.accept (h:qV n s) (o:Og) (p:Pk) (J:uf p/\uj p/\jJ p=ό/\0<=p.sq/\p.sq<=65535):qV (n+1) (s.accept o p):=by
 have I:=qR.accept h.ow h.tb.act o p;unfold RmS.accept at I ⊢;cases ht:qh s.strs o with
 | none=>exact h.up
 | some t=>
  rw[ht] at I;simp only at I ⊢;obtain⟨O,af,ag,ah,ai,aj,ak,al,H,M,U,Y,aa,ac,ab,ad,ae⟩:=h.num;refine⟨I,h.tb.loc rfl (λx=>rfl) (λo2=> ?_),⟨O,by simp only;omega,by simp only;omega,by simp only;omega, ?_,by simp only;omega, ?_,by simp only;omega,λo2 t2 a b=> ?_,λo2 t2 a=> ?_,U,Y,λa d=> ?_,by simp only;omega,λx l a=> ?_, ?_,by simp only;omega⟩⟩
  ·simp only;rw[qF];split
   ·rename_i e;rw[e,ht];rfl
   ·rfl
  ·simp only[Ϗ,ϙ,Ϫ];omega
  ·simp only[Ϗ,ϙ,Ϫ];omega
  ·simp only at a;rw[qF] at a;split at a
   ·injection a with e
    subst e;have N:=WS (n:=n) J.2.2.2 (H o t ht);unfold Ye;simp only;split
    ·rename_i G;rcases G with G | G
     ·have:=N.2.2 G;omega
     ·cases d:t.any with
      | true=>have:=H o t ht d;omega
      | false=>have:=N.2.2 d;omega
    ·rename_i G;cases d:t.any with
     | true=>have:=H o t ht d;omega
     | false=>exact ϩ (ϒ d) G
   ·have:=H o2 t2 a b;omega
  ·simp only at a;rw[qF] at a;split at a
   ·injection a with e
    subst e;have:=M o t ht;unfold Ye;simp only;omega
   ·have:=M o2 t2 a;omega
  ·rcases ϡ.1 d with d | d
   ·exact aa a d
   ·rw[Δ] at d;subst d;exact⟨J.1,J.2.1,J.2.2.1⟩
  ·have:=ab x l a;omega
  ·have am:(prR (j8 o.1) s.tab.u).length<=6:=by unfold prR;exact Ϙ (C8 _ _) ζ
   have:=Vu s.pks.length (prR (j8 o.1) s.tab.u) s.book;simp only;split
   ·omega
   ·rw[vQ];omega
def qV.read (h:qV n s):qV (n+1) s.read:=by
 have d:=qR.read h.ow h.tb.act;unfold RmS.read at d ⊢;cases hq:s.queue with
 | nil=>exact h.up
 | cons b q=>
  rw[hq] at d;simp only at d ⊢;obtain⟨al,au,av,aw,ax,ay,az,aA,aB,am,J,M,an,ao,ap,aq,ar⟩:=h.num;have aC:=J b (by rw[hq];exact Ϟ);have N:qV n {s with queue:=q}:=⟨h.ow.same rfl rfl rfl rfl,h.tb.loc rfl (λ_=>rfl) (λ_=>rfl),⟨al,au,av,aw,ax,ay,az,aA,aB,am,λc H=>J c (by rw[hq];exact Ϩ _ H),by rw[hq] at M;simp only[ϙ] at M ⊢;omega,an,ao,ap,aq,ar⟩⟩;have G: ∀c:CnR,c.acc=s.cnt.acc->c.lost=s.cnt.lost->(0<=c.malf/\c.malf<=n+1)->(0<=c.told/\c.told<=n+1)->(0<=c.strange/\c.strange<=n+1)->qV (n+1) {s with queue:=q,cnt:=c}:=by
   intro c c1 c2 c3 c4 c5;obtain⟨O,aD,aE,aF,ag,ah,ai,aj,ak,U,Y,aa,ab,ac,ad,ae,af⟩:=N.up.num;exact⟨h.ow.same rfl rfl rfl rfl,h.tb.loc rfl (λ_=>rfl) (λ_=>rfl),⟨O,c3,c4,c5,by simp only;rw[c1];exact ag,by simp only;rw[c2];exact ah,ai,aj,ak,U,Y,aa,ab,ac,ad,ae,af⟩⟩
  split
  ·rename_i H;rw[ϐ H] at d;unfold RmS.tell at d ⊢;split
   ·rename_i I;rw[ϐ I] at d;exact(ko _ _).ok (G {s.cnt with told:=s.cnt.told+1} rfl rfl (by simp only;omega) (by simp only;omega) (by simp only;omega)) d
   ·exact G {s.cnt with malf:=s.cnt.malf+1} rfl rfl (by simp only;omega) (by simp only;omega) (by simp only;omega)
  ·unfold RmS.media;split
   ·rename_i I;cases qh s.tab.o (jl b).1.sc with
    | none=>exact G {s.cnt with strange:=s.cnt.strange+1} rfl rfl (by simp only;omega) (by simp only;omega) (by simp only;omega)
    | some o=>exact N.accept o _ (Xc aC.1 I)
   ·exact G {s.cnt with malf:=s.cnt.malf+1} rfl rfl (by simp only;omega) (by simp only;omega) (by simp only;omega)
def qV.write (h:qV n s) (x:Int) (acc:Bool):qV (n+1) (s.write x acc):=by
 have G:=h.ow.write x acc;unfold RmS.write at G ⊢;cases hl:qh s.lanes x with
 | none=>exact h.up
 | some l=>
  rw[hl] at G;simp only at G ⊢;obtain⟨aD,aK,aL,aM,aN,aO,aP,aQ,aR,aE,aF,aG,aH,J,N,aI,aJ⟩:=h.num;have O: ∀c:Bool,(if c then jp s.book x (qX l acc).2.1 (qX l acc).2.2.1 else s.book).length=s.book.length:=by
   intro c;cases c
   ·rfl
   ·exact zq _ _ _ _
  have aw:=h.ow.sub x l hl;have aS:(qX l acc).1.W.length<=l.W.length+1:=by
   rcases uV l acc with ⟨_,e⟩ | ⟨o,C,aq,⟨H,e⟩ | ⟨_,_,H,e⟩⟩
   ·rw[e];simp
   ·rw[e];simp only;split
    ·simp
    ·omega
   ·rw[e];simp
  have av:(qX l acc).1.wanted=l.wanted:=by
   rcases uV l acc with ⟨_,e⟩ | ⟨o,C,aq,⟨H,e⟩ | ⟨_,_,H,e⟩⟩<;>rw[e]
  have ar:(∀y,(qh (zM s.tab x).1.u y).isSome=(qh s.tab.u y).isSome)/\(zM s.tab x).1.o=s.tab.o/\(zM s.tab x).1.s=s.tab.s/\(∀y d,qh (zM s.tab x).1.u y=ϊ d->d.2.1=ό->y≠x/\qh s.tab.u y=ϊ d)/\(zM s.tab x).1.u.length<=n:=by
   unfold zM;rw[ϐ (subIds_iff.1 aw.1)];split
   ·rename_i I;refine⟨λy=> ?_,rfl,rfl,λy d a b=> ?_, ?_⟩
    ·simp only;rw[qF];split
     ·rename_i e;rw[e];exact I.1.symm
     ·rfl
    ·simp only at a;rw[qF] at a;split at a
     ·injection a with e
      rw[<-e] at b;cases b
     ·rename_i e;exact⟨e,a⟩
    ·simp only;rw[vJ _ I.1];exact J
   ·rename_i I;refine⟨λy=>rfl,rfl,rfl,λy d a b=>⟨λe=> ?_,a⟩,J⟩;rw[e] at a;exact I ⟨by rw[a];rfl,by rw[a];exact b⟩
  have U: ∀(T:TS) (b:Bk),T.u.length<=n->b.length=s.book.length->JR (n+1) {s with lanes:=qx s.lanes x (qX l acc).1,tab:=T,book:=b}:=by
   intro T b aT H;obtain⟨ac,ai,aj,ak,al,am,an,ao,ap,ad,ae,af,ag,aA,aB,aC,ah⟩:=h.num.up;refine⟨ac,ai,aj,ak,al,am,an,ao,ap,ad,ae,af,ag,by simp only;omega,λy m a=> ?_,by simp only;omega,ah⟩;simp only at a;rw[qF] at a;split at a
   ·injection a with e
    subst e;have:=N x l hl;omega
   ·have:=N y m a;omega
  cases hg:(qX l acc).1.gone with
  | true=>
   rw[hg] at G;simp only[A0] at G ⊢;obtain⟨Y,ay,M,aa,az⟩:=ar;refine⟨G,⟨λy ax=>h.tb.keys y (by rw[<-Y];exact ax),λy=> ?_,λy d a b=> ?_,λy d a b=> ?_,λp m au=> ?_,λy o a=> ?_,by simp only;rw[M];exact h.tb.src⟩,U _ _ az (by rw[show ∀(m:Bk) a f,(vM m a f).length=m.length from λm a f=>by simp[vM],O])⟩
   ·simp only;rw[Y,h.tb.lane,qF];split
    ·rename_i e;rw[e,hl];rfl
    ·rfl
   ·obtain⟨e,ab⟩:=aa y d a b;obtain⟨m,c1,c2,c3⟩:=h.tb.act y d ab b;exact⟨m,by simp only;rw[qF,ώ e];exact c1,c2,c3⟩
   ·simp only;rw[M];exact h.tb.pub y d (aa y d a b).2 b
   ·simp only;rw[M];exact h.tb.str p m au
   ·simp only at a ⊢;rw[ay] at a;exact h.tb.org y o a
  | false=>
   rw[hg] at G;simp only[Ϯ,C2] at G ⊢;refine⟨G,⟨h.tb.keys,λy=> ?_,λy d a b=> ?_,h.tb.pub,h.tb.str,h.tb.org,h.tb.src⟩,U s.tab _ J (O _)⟩
   ·simp only;rw[h.tb.lane,qF];split
    ·rename_i e;rw[e,hl];rfl
    ·rfl
   ·obtain⟨m,c1,c2,c3⟩:=h.tb.act y d a b;by_cases e:y=x
    ·subst e;rw[hl] at c1;injection c1 with e2
     subst e2;exact⟨(qX l acc).1,by simp only;rw[qF,ϐ rfl],hg,by rw[av];exact c3⟩
    ·exact⟨m,by simp only;rw[qF,ώ e];exact c1,c2,c3⟩
def qV.ret (h:qV n s) (r:List (Og×Bool)):qV n {s with ret:=r}:=by
 obtain⟨d,Y,aa,ab,ac,ad,ae,af,ag,G,H,I,J,M,N,O,U⟩:=h.num;exact⟨h.ow.same rfl rfl rfl rfl,h.tb.loc rfl (λ_=>rfl) (λ_=>rfl),⟨d,Y,aa,ab,ac,ad,ae,af,ag,G,H,I,J,M,N,O,U⟩⟩
def qV.drain (h:qV n s) (w:Og):qV (n+1) (s.drain w):=by
 unfold RmS.drain;split
 ·obtain⟨ae,ar,au,av,aw,ax,ay,az,aA,aj,ak,al,am,an,ao,ap,aq⟩:=h.num;have aB:=(kF ae).1;obtain⟨d,O,U,Y,aa,ai,ab,ac,ad,G,ag,ah,H,I,J,M,N⟩:=h.num.up;exact⟨h.ow.same rfl rfl rfl rfl,h.tb.loc rfl (λ_=>rfl) (λ_=>rfl),⟨d,O,U,Y,aa,by simp only;omega,ab,ac,ad,G,λb af=>by simp at af,by simp only[Ϫ];omega,H,I,J,M,N⟩⟩
 ·split
  ·exact(za vn _ s).ok h.up (qR.drainOs _ h.ow)
  ·exact(OM s w).ok h.up (h.ow.drainL w)
def qV.endW (h:qV n s) (w:Og):qV (n+1) (s.endW w):=by
 unfold RmS.endW;split
 ·exact(h.drain w).ret _
 ·exact h.drain w
def qV.stepW (h:qV n s) (w:Og) (acc:Bool):qV (n+1) (s.stepW w acc):=by
 unfold RmS.stepW;split
 ·exact h.endW w
 ·split
  ·exact h.read
  ·split
   ·exact h.order.up
   ·split
    ·exact(h.choose w.2).up
    ·split
     ·exact(h.rewrite w.2).up
     ·exact h.write w.2 acc
def qV.pick (h:qV n s) (w:Og) (acc:Bool):qV (n+1) (s.pick w acc).1:=by
 unfold RmS.pick;split
 ·exact h.stepW w acc
 ·exact h.up
def qV.publish (h:qV n s) (p s0 s1 s2:Int) (I: ∀v∈[s0,s1,s2],0<=v/\v<=4294967295):qV (n+1) (s.publish p s0 s1 s2).1:=by
 unfold RmS.publish;split
 ·exact h.up
 ·split
  ·rename_i au;simp only;have G:=au;unfold vA at G;split at G
   ·rename_i M;split at G
    ·simp at G
    ·rename_i ao;split at G
     ·simp at G
     ·rename_i N;split at G
      ·simp at G
      ·rename_i aq;have e:(vA s.tab p s0 s1 s2).1={s.tab with o:=qx (qx (qx s.tab.o s0 (p,0)) s1 (p,1)) s2 (p,2),s:=qx (qx (qx s.tab.s (p,0) s0) (p,1) s1) (p,2) s2}:=by
        unfold vA;rw[ϐ M,ώ ao,ώ N,ώ aq];rfl
       rw[e];have ar: ∀k,qh s.strs (p,k)=ϋ:=λk=>by
        cases H:qh s.strs (p,k) with
        | none=>rfl
        | some t=>
         have:=h.tb.str p k (XD (h.ow.org _ t H));rw[H] at this;exact ϩ this.symm N
       have key: ∀(o:Og) {α:Type} {m:List (Og×α)} {a b c:α},(qh (qx (qx (qx m (p,0) a) (p,1) b) (p,2) c) o).isSome=((decide (o=(p,2))||(decide (o=(p,1))||decide (o=(p,0))))||(qh m o).isSome):=by
        intro o α m a b c;rw[qF,qF,qF];by_cases c2:o=(p,2)
        ·rw[ϐ c2,ϭ c2];rfl
        ·rw[ώ c2,ϫ c2];by_cases c1:o=(p,1)
         ·rw[ϐ c1,ϭ c1];rfl
         ·rw[ώ c1,ϫ c1];by_cases c0:o=(p,0)
          ·rw[ϐ c0,ϭ c0];rfl
          ·rw[ώ c0,ϫ c0];rfl
       have J: ∀o t,qh (qx (qx (qx s.strs (p,0) (uc s.cfg)) (p,1) (uc s.cfg)) (p,2) (uc s.cfg)) o=ϊ t->t=uc s.cfg∨qh s.strs o=ϊ t:=by
        intro o t a;rw[qF] at a;split at a
        ·injection a with e;exact ϒ e.symm
        ·rw[qF] at a;split at a
         ·injection a with e;exact ϒ e.symm
         ·rw[qF] at a;split at a
          ·injection a with e;exact ϒ e.symm
          ·exact ϔ a
       obtain⟨O,ag,ah,ai,aj,ak,al,am,an,U,Y,aa,ab,ac,ad,ae,af⟩:=h.num.up;refine⟨(qR.publish h.ow p M ar).same rfl rfl rfl rfl,⟨h.tb.keys,h.tb.lane,h.tb.act,λx av a b=> ?_,λp2 k H=> ?_,λx o a=> ?_,λo v a=> ?_⟩,⟨O,ag,ah,ai,aj,ak,al,am,λo t a b=> ?_,λo t a=> ?_,Y,aa,ab,ac,ad,ae,af⟩⟩
       ·simp only;rw[key,h.tb.pub x av a b,Bool.or_true]
       ·simp only;rw[key,key];by_cases e2:p2=p
        ·subst e2;have ap:k=0∨k=1∨k=2:=by
          have:=ϟ H;omega
         rcases ap with rfl | rfl | rfl<;>simp
        ·have d: ∀j i:Int,decide ((p2,j)=(p,i))=ύ:=λj i=>ϫ λc=>e2 (ϯ Prod.fst c)
         rw[d,d,d,d,d,d,h.tb.str p2 k H]
       ·simp only at a ⊢;rw[key];rw[qF] at a;split at a
        ·injection a with d;rw[<-d];simp
        ·rw[qF] at a;split at a
         ·injection a with d;rw[<-d];simp
         ·rw[qF] at a;split at a
          ·injection a with d;rw[<-d];simp
          ·rw[h.tb.org x o a,Bool.or_true]
       ·simp only at a;rw[qF] at a;split at a
        ·injection a with d;rw[<-d];exact I _ η
        ·rw[qF] at a;split at a
         ·injection a with d;rw[<-d];exact I _ η
         ·rw[qF] at a;split at a
          ·injection a with d;rw[<-d];exact I _ η
          ·exact h.tb.src o v a
       ·rcases J o t a with c | c
        ·rw[c] at b;cases b
        ·exact an o t c b
       ·rcases J o t a with c | c
        ·rw[c];unfold uc;simp only;omega
        ·exact U o t c
   ·simp at G
  ·exact h.up
def qV.join (h:qV n s) (x H sq st:Int):qV (n+1) (s.join x H sq st).1:=by
 unfold RmS.join;split
 ·exact h.up
 ·split
  ·rename_i ap;simp only;have G:=ap;unfold yI at G;split at G
   ·rename_i O;split at G
    ·simp at G
    ·rename_i M;have e:(yI s.tab x H).1={s.tab with u:=qx s.tab.u x (H,ύ,0)}:=by
      unfold yI;rw[ϐ O,ώ M]
     rw[e];have N:qh s.tab.u x=ϋ:=by
      cases N:qh s.tab.u x with
      | none=>rfl
      | some v=>rw[N] at M;exact ϩ rfl M
     have J:qh s.lanes x=ϋ:=by
      have:=h.tb.lane x;rw[N] at this;cases J:qh s.lanes x with
      | none=>rfl
      | some l=>rw[J] at this;cases this
     have ar:=(kF h.num.cfg).1;have au:=h.num.few;obtain⟨Y,ah,ai,aj,ak,al,am,an,ao,aa,ab,ac,ad,aq,ae,af,ag⟩:=h.num.up;refine⟨(qR.join h.ow (subIds_iff.2 O) J (l:=Vd s.cfg.room.toNat s.cfg.most H sq st) (by show 1<=s.cfg.room.toNat;omega) rfl).same rfl rfl rfl rfl,⟨λy I=> ?_,λy=> ?_,λy U a b=> ?_,λy U a b=> ?_,h.tb.str,h.tb.org,h.tb.src⟩,⟨Y,ah,ai,aj,ak,al,am,an,ao,aa,ab,ac,ad, ?_,λy l a=> ?_,af,ag⟩⟩
     ·simp only at I;rw[qF] at I;split at I
      ·rename_i d;rw[d];exact O
      ·exact h.tb.keys y I
     ·simp only;rw[qF,qF];split
      ·rfl
      ·exact h.tb.lane y
     ·simp only at a ⊢;rw[qF] at a;split at a
      ·injection a with d
       rw[<-d] at b;cases b
      ·rename_i d;rw[qF,ώ d];exact h.tb.act y U a b
     ·simp only at a;rw[qF] at a;split at a
      ·injection a with d
       rw[<-d] at b;cases b
      ·exact h.tb.pub y U a b
     ·have:=Qz x (H,ύ,(0:Int)) s.tab.u;simp only;omega
     ·simp only at a;rw[qF] at a;split at a
      ·injection a with d
       subst d;simp[Vd]
      ·exact ae y l a
   ·simp at G
  ·exact h.up
def Ee (l:LnS) (k:Int):(jO l k).1.W=l.W:=by
 unfold jO
 repeat' split
 all_goals rfl
def qV.wantL (h:qV n s) (d:qh s.lanes x=ϊ l) (k:Int):qV n {s with lanes:=qx s.lanes x (jO l k).1}:=by
 obtain⟨al,am,ai,aj⟩:=Xv l k;obtain⟨H,aa,ab,ac,ad,ae,af,ag,ah,I,J,M,N,O,G,U,Y⟩:=h.num;refine⟨qR.wantL h.ow d k,⟨h.tb.keys,λy=> ?_,λy ak a b=> ?_,h.tb.pub,h.tb.str,h.tb.org,h.tb.src⟩,⟨H,aa,ab,ac,ad,ae,af,ag,ah,I,J,M,N,O,λy m a=> ?_,U,Y⟩⟩
 ·simp only;rw[h.tb.lane,qF];split
  ·rename_i e;rw[e,d];rfl
  ·rfl
 ·obtain⟨m,c1,c2,c3⟩:=h.tb.act y ak a b;simp only;rw[qF];by_cases e:y=x
  ·subst e;rw[d] at c1;injection c1 with e2
   subst e2;exact⟨_,by rw[ϐ rfl],by rw[ai];exact c2,aj c3⟩
  ·exact⟨m,by rw[ώ e];exact c1,c2,c3⟩
 ·simp only at a;rw[qF] at a;split at a
  ·injection a with e2
   subst e2;rw[Ee];exact G x l d
  ·exact G y m a
def qV.want (h:qV n s) (x k:Int):qV (n+1) (s.want x k).1:=by
 unfold RmS.want;split
 ·exact h.up
 ·split
  ·exact h.up
  ·split
   ·exact h.up
   ·cases hl:qh s.lanes x with
    | none=>exact h.up
    | some l=>exact(h.wantL hl k).up
def qV.subscribe (h:qV n s) (x p k:Int):qV (n+1) (s.subscribe x p k).1:=by
 unfold RmS.subscribe;split
 ·exact h.up
 ·split
  ·exact h.up
  ·rename_i ar;split
   ·exact h.up
   ·rename_i I;split
    ·rename_i av;cases hl:qh s.lanes x with
     | none=>exact h.up
     | some l=>
      simp only;have G:=av;unfold vL at G;split at G
      ·rename_i U;split at G
       ·rename_i J;split at G
        ·simp at G
        ·rename_i au;have e:(vL s.tab x p).1={s.tab with u:=qx s.tab.u x (((qh s.tab.u x).getD sb0).1,ό,p)}:=by
          unfold vL;rw[ϐ U,ϐ J,ώ au]
         rw[e];have O:l.gone=ύ:=by
          unfold JV at I;rw[hl] at I
          simpa using I
         have N:=h.wantL hl k;have Y:(jO l k).1.wanted=ό/\(jO l k).1.gone=ύ:=by
          unfold jO;rw[ώ ar,ώ (by rw[O];decide)];exact⟨rfl,O⟩
         obtain⟨aa,aj,ak,al,am,an,ao,ap,aq,ab,ac,ad,ae,af,ag,ah,ai⟩:=N.num.up;refine⟨N.ow.same rfl rfl rfl rfl,⟨λy H=> ?_,λy=> ?_,λy M a b=> ?_,λy M a b=> ?_,h.tb.str,h.tb.org,h.tb.src⟩,⟨aa,aj,ak,al,am,an,ao,ap,aq,ab,ac,ad,ae, ?_,ag,ah,ai⟩⟩
         ·simp only at H;rw[qF] at H;split at H
          ·rename_i d;rw[d];exact U.1
          ·exact h.tb.keys y H
         ·simp only;rw[qF,qF];split
          ·rfl
          ·exact h.tb.lane y
         ·simp only at a ⊢;rw[qF] at a ⊢;split at a
          ·rename_i d;rw[ϐ d];exact⟨_,rfl,Y.2,Y.1⟩
          ·rename_i d;rw[ώ d];exact h.tb.act y M a b
         ·simp only at a ⊢;rw[qF] at a;split at a
          ·injection a with d
           rw[<-d];exact J.2
          ·exact h.tb.pub y M a b
         ·simp only;rw[vJ _ J.1];exact af
       ·simp at G
      ·simp at G
    ·exact h.up
def ZN [DecidableEq K] (k:K): ∀(m:List (K×V)),(yK m k).length<=m.length
 | []=>by simp[yK]
 | (a,b)::l=>by
  unfold yK;split
  ·simp
  ·have:=ZN k l;simp only[ϙ];omega
def qV.leave (h:qV n s) (H:(s.tab.u.map Prod.fst).Nodup) (x:Int):qV (n+1) (s.leave x).1:=by
 unfold RmS.leave;split
 ·exact h.up
 ·split
  ·rename_i an;simp only;have G:=an;unfold zW at G;split at G
   ·rename_i am;split at G
    ·rename_i al;have e:(zW s.tab x).1={s.tab with u:=yK s.tab.u x}:=by
      unfold zW;rw[ϐ am,ϐ al]
     rw[e];have ap:=h.num.few;obtain⟨M,ad,ae,af,ag,ah,ai,aj,ak,N,O,U,Y,ao,aa,ab,ac⟩:=h.num.up;refine⟨(qR.leave h.ow x).same rfl rfl rfl rfl,⟨λy d=> ?_,λy=> ?_,λy I a b=> ?_,λy I a b=> ?_,h.tb.str,h.tb.org,h.tb.src⟩,⟨M,ad,ae,af,ag,ah,ai,aj,ak,N,O,U,Y, ?_,λy l a=> ?_, ?_,ac⟩⟩
     ·simp only at d;rw[gD H] at d;split at d
      ·cases d
      ·exact h.tb.keys y d
     ·simp only;rw[gD H,uR];split
      ·rfl
      ·exact h.tb.lane y
     ·simp only at a ⊢;rw[gD H] at a;split at a
      ·cases a
      ·rename_i J;rw[uR,ώ J];exact h.tb.act y I a b
     ·simp only at a;rw[gD H] at a;split at a
      ·cases a
      ·exact h.tb.pub y I a b
     ·have:=ZN x s.tab.u;simp only;omega
     ·simp only at a;rw[uR] at a;split at a
      ·cases a
      ·exact aa y l a
     ·simp only;rw[show ∀(m:Bk) a f,(vM m a f).length=m.length from λm a f=>by simp[vM]];exact ab
    ·simp at G
   ·simp at G
  ·exact h.up
def qV.arrive (h:qV n s) (ag:Byt b) (ah:b.length<=400):qV (n+1) (s.arrive b).1:=by
 have d:=(kF h.num.cfg).1;have al:=h.num.fit;have ak:=h.num.lost;obtain⟨G,Y,aa,ab,ac,ai,ad,ae,af,H,I,aj,J,M,N,O,U⟩:=h.num.up;unfold RmS.arrive;split
 ·exact h.up
 ·split
  ·refine⟨h.ow.same rfl rfl rfl rfl,h.tb.loc rfl (λ_=>rfl) (λ_=>rfl),⟨G,Y,aa,ab,ac,ai,ad,ae,af,H,λc d=> ?_, ?_,J,M,N,O,U⟩⟩
   ·rcases ϡ.1 d with d | d
    ·exact I c d
    ·rw[Δ] at d;rw[d];exact⟨ag,ah⟩
   ·simp only[Ϗ,ϙ,Ϫ];omega
  ·refine⟨h.ow.same rfl rfl rfl rfl,h.tb.loc rfl (λ_=>rfl) (λ_=>rfl),⟨G,Y,aa,ab,ac,by simp only;omega,ad,ae,af,H,λc d=> ?_, ?_,J,M,N,O,U⟩⟩
   ·rcases ϡ.1 d with d | d
    ·exact I c (N1 d)
    ·rw[Δ] at d;rw[d];exact⟨ag,ah⟩
   ·simp only[Ϗ,ϙ,Ϫ,List.length_tail];omega
def qV.shut (h:qV n s):qV (n+1) s.shut.1:=by
 unfold RmS.shut;split
 ·exact h.up
 ·obtain⟨d,Y,aa,ab,ac,ad,ae,af,ag,G,H,I,J,M,N,O,U⟩:=h.num.up;exact⟨h.ow.same rfl rfl rfl rfl,h.tb.loc rfl (λ_=>rfl) (λ_=>rfl),⟨d,Y,aa,ab,ac,ad,ae,af,ag,G,H,I,J,M,N,O,U⟩⟩
def uQ {c:CfR} (d:xY c=ό):qV 0 (ud c):=by
 have h:=(kF d).1
 refine⟨⟨λo t a=>(by cases a),λo t a=>(by cases a),λo t H t' a=>(by cases a),λo t a=>(by cases a),λx l a=>(by cases a),λx l a=>(by cases a),λx i a=>(by cases a),λx i v a=>(by cases a)⟩,
  ⟨λx a=>(by cases a),λx=>rfl,λx G a=>(by cases a),λx G a=>(by cases a),λp k _=>rfl,λx o a=>(by cases a),λo v a=>(by cases a)⟩,
  ⟨d,by simp[ud],by simp[ud],by simp[ud],rfl,by simp[ud],by simp[ud],by simp[ud],λo t a=>(by cases a),λo t a=>(by cases a),λb a=>(by cases a),by simp only[ud,Ϫ];omega,λa b=>(by cases b),by simp[ud],λx l a=>(by cases a),by simp[ud],by simp[ud]⟩⟩
def mem_workers {w:Og}:w∈s.workers↔w=(0,0)∨w=(1,0)∨((w.1=2∨w.1=3∨w.1=4)/\w.2∈subIds/\(qh s.lanes w.2).isSome=ό):=by
 unfold RmS.workers yp RmS.there;obtain⟨a,b⟩:=w;simp only[ϰ,List.mem_flatMap,G6,C4,Q3,or_false,C3];constructor
 ·rintro(h | h | ⟨x,⟨d,H,G⟩,I⟩)
  ·exact ϒ h
  ·exact ϔ (ϒ h)
  ·rcases I with ⟨rfl,rfl⟩ | ⟨rfl,rfl⟩ | ⟨rfl,rfl⟩
   ·exact ϔ (ϔ ⟨ϒ rfl,d,G⟩)
   ·exact ϔ (ϔ ⟨ϔ (ϒ rfl),d,G⟩)
   ·exact ϔ (ϔ ⟨ϔ (ϔ rfl),d,G⟩)
 ·rintro(h | h | ⟨d,H,G⟩)
  ·exact ϒ h
  ·exact ϔ (ϒ h)
  ·refine ϔ (ϔ ⟨b,⟨H,H,G⟩, ?_⟩);rcases d with rfl | rfl | rfl
   ·exact ϒ ⟨rfl,rfl⟩
   ·exact ϔ (ϒ ⟨rfl,rfl⟩)
   ·exact ϔ (ϔ ⟨rfl,rfl⟩)
def Qc (L:List Int): ∀s:RmS,(L.foldl RmS.drain1 s).lanes=s.lanes/\(L.foldl RmS.drain1 s).strs=s.strs:=by
 induction L with
 | nil=>intro s;exact⟨rfl,rfl⟩
 | cons x L ih=>intro s;rw[ε,(ih _).1,(ih _).2];exact⟨rfl,rfl⟩
def Ko (s:RmS) (o:Og):(s.drainO o).lanes=s.lanes/\ ∀d t,qh (s.drainO o).strs d=ϊ t->(d=o/\t.buf.holds=[])∨(d≠o/\qh s.strs d=ϊ t):=by
 unfold RmS.drainO;cases ht:qh s.strs o with
 | none=>exact⟨rfl,λd t h=>ϔ ⟨(λe=>by rw[e,ht] at h;cases h),h⟩⟩
 | some u=>
  simp only;rw[(Qc _ _).1,(Qc _ _).2];refine⟨rfl,λd t h=> ?_⟩;simp only at h;rw[qF] at h;split at h
  ·rename_i e;injection h with e2
   subst e2;exact ϒ ⟨e,XG _ _ (ϕ _)⟩
  ·rename_i e;exact ϔ ⟨e,h⟩
structure A22 where
 act:Int
 sub:Int
 pub:Int
 layer:Int
 b:List Int
 w:Og
 acc:Bool
 own:Int
 stamp:Int
 seq:Int
 s0:Int
 s1:Int
 s2:Int
def doR (s:RmS) (a:A22):RmS×Int×Bool:=
 if a.act=0 then ((s.arrive a.b).1,(s.arrive a.b).2,ύ) else if a.act=1 then ((s.pick a.w a.acc).1,0,(s.pick a.w a.acc).2) else if a.act=2 then (s.tick.1,s.tick.2,ύ)
 else if a.act=3 then ((s.publish a.pub a.s0 a.s1 a.s2).1,(s.publish a.pub a.s0 a.s1 a.s2).2,ύ) else if a.act=4 then ((s.join a.sub a.own a.seq a.stamp).1,(s.join a.sub a.own a.seq a.stamp).2,ύ)
 else if a.act=5 then ((s.subscribe a.sub a.pub a.layer).1,(s.subscribe a.sub a.pub a.layer).2,ύ) else if a.act=6 then ((s.want a.sub a.layer).1,(s.want a.sub a.layer).2,ύ)
 else if a.act=7 then ((s.leave a.sub).1,(s.leave a.sub).2,ύ) else if a.act=8 then (s.shut.1,s.shut.2,ύ) else (s,0,ύ)
def KZ (h:qV n s) (I:(s.tab.u.map Prod.fst).Nodup) (a:A22) (d:Byt a.b) (G:a.b.length<=400) (H: ∀v∈[a.s0,a.s1,a.s2],0<=v/\v<=4294967295):qV (n+1) (doR s a).1:=by
 unfold doR;split
 ·exact h.arrive d G
 ·split
  ·exact h.pick _ _
  ·split
   ·exact h.tick
   ·split
    ·exact h.publish _ _ _ _ H
    ·split
     ·exact h.join _ _ _ _
     ·split
      ·exact h.subscribe _ _ _
      ·split
       ·exact h.want _ _
       ·split
        ·exact h.leave I _
        ·split
         ·exact h.shut
         ·exact h.up
def Xn (a:A22) (d:a.act=1):doR s a=((s.pick a.w a.acc).1,0,(s.pick a.w a.acc).2):=by
 unfold doR;rw[ώ τ,ϐ d]
def acP (P:List AcS) (i:Int):AcS:=P.getD i.toNat ac0
def SX (P:List AcS) (i j:Int):Prop:=i≠j/\((acP P i).o=(acP P j).o->(acP P i).num<(acP P j).num)
structure HJ (b:Jb):Prop where
 rise:b.holds.Pairwise λa c=>a.1<c.1
 over:b.begun=ό-> ∀h∈b.holds,b.hi<h.1
structure Jle (b b':Jb):Prop where
 hi:b.begun=ό->b'.begun=ό/\b.hi<=b'.hi
 sub: ∀h∈b'.holds,h∈b.holds
 ok:HJ b->HJ b'
def Jle.refl (b:Jb):Jle b b:=⟨λh=>⟨h,P4 _⟩,λ_ h=>h,λh=>h⟩
def Jle.trans {b H b'':Jb} (h:HJ b->Jle b H) (k:HJ H->Jle H b'') (I:HJ b):Jle b b'':=
 have d:=h I;have G:=k (d.ok I)
 ⟨λe=>⟨(G.hi (d.hi e).1).1,Int.le_trans (d.hi e).2 (G.hi (d.hi e).1).2⟩,λx J=>d.sub x (G.sub x J),λe=>G.ok (d.ok e)⟩
def Rm {b:Jb} (I:HJ b) {h:Hd} {T:List Hd} (d:b.holds=h::T):xT b={b with holds:=T,begun:=ό,hi:=h.1,bits:=(wK b h.1).2}:=by
 have H:(wK b h.1).1=h.1:=by
  unfold wK;split
  ·rename_i G;rw[QD];have:=I.over G h (by rw[d];exact Ϟ);omega
  ·rfl
 unfold xT;rw[d];simp only[H]
def Rl {b:Jb} (H:HJ b):Jle b (xT b):=by
 cases hb:b.holds with
 | nil=>
  have e:xT b=b:=by unfold xT;rw[hb]
  rw[e];exact Jle.refl b
 | cons h T=>
  have G:=H.rise;rw[hb,I1] at G;rw[Rm H hb];refine⟨λe=>⟨rfl, ?_⟩,λk d=>by rw[hb];exact Ϩ _ d,λ_=>⟨G.2,λ_ k d=>G.1 k d⟩⟩;have:=H.over e h (by rw[hb];exact Ϟ);show b.hi<=h.1;omega
def OY: ∀(n:Nat) {b:Jb},HJ b->Jle b (Qr n b)
 | 0,b,_=>Jle.refl b
 | n+1,_,ok=>Jle.trans (λh=>Rl h) (λh=>OY n h) ok
structure EO (s:RmS):Prop where
 ord: ∀x l,qh s.lanes x=ϊ l->(EI l).Pairwise (SX s.pks)
 inn: ∀x l,qh s.lanes x=ϊ l-> ∀i∈EI l,(0<=i/\i<(s.pks.length:Int))/\ ∀t,qh s.strs (acP s.pks i).o=ϊ t->t.buf.begun=ό/\(acP s.pks i).num<=t.buf.hi
 held: ∀o t,qh s.strs o=ϊ t->HJ t.buf/\ ∀h∈t.buf.holds,(0<=h.2.2/\h.2.2<(s.pks.length:Int))/\(acP s.pks h.2.2).o=o/\(acP s.pks h.2.2).num=h.1
 org: ∀i:Int,0<=i/\i<(s.pks.length:Int)->(qh s.strs (acP s.pks i).o).isSome=ό
structure Sqr (s s':RmS):Prop where
 pks:s'.pks=s.pks
 strs: ∀o t',qh s'.strs o=ϊ t'-> ∃t,qh s.strs o=ϊ t/\(HJ t.buf->Jle t.buf t'.buf)
 has: ∀o,(qh s.strs o).isSome=ό->(qh s'.strs o).isSome=ό
 lanes: ∀x l',qh s'.lanes x=ϊ l'->EI l'=[]∨ ∃l,qh s.lanes x=ϊ l/\List.Sublist (EI l') (EI l)
def Sqr.refl (s:RmS):Sqr s s:=⟨rfl,λo t h=>⟨t,h,λ_=>Jle.refl _⟩,λ_ h=>h,λx l h=>ϔ ⟨l,h,Ϣ _⟩⟩
def Sqr.trans {s'':RmS} (h:Sqr s s') (k:Sqr s' s''):Sqr s s'':=by
 refine⟨k.pks.trans h.pks,λo t e=> ?_,λo e=>k.has o (h.has o e),λx l e=> ?_⟩
 ·obtain⟨t1,d,H⟩:=k.strs o t e;obtain⟨t2,G,I⟩:=h.strs o t1 d;exact⟨t2,G,λJ=>Jle.trans I H J⟩
 ·rcases k.lanes x l e with d | ⟨l1,d,s1⟩
  ·exact ϒ d
  ·rcases h.lanes x l1 d with G | ⟨l2,G,s2⟩
   ·exact ϒ (List.sublist_nil.1 (by rw[<-G];exact s1))
   ·exact ϔ ⟨l2,G,s1.trans s2⟩
def Sqr.same (d:s'.strs=s.strs) (G:s'.lanes=s.lanes) (H:s'.pks=s.pks):Sqr s s':=
 ⟨H,λo t h=>⟨t,by rw[<-d];exact h,λ_=>Jle.refl _⟩,λo h=>by rw[d];exact h,λx l h=>ϔ ⟨l,by rw[<-G];exact h,Ϣ _⟩⟩
def Sqr.fold (d: ∀s a,Sqr s (f s a)): ∀(L:List α) (s:RmS),Sqr s (L.foldl f s)
 | [],s=>Sqr.refl s
 | a::L,s=>(d s a).trans (Sqr.fold d L (f s a))
def EO.by (h:EO s) (k:Sqr s s'):EO s':=by
 refine⟨λx l e=> ?_,λx l e i hi=> ?_,λo t e=> ?_,λi hi=> ?_⟩
 ·rw[k.pks];rcases k.lanes x l e with d | ⟨l1,d,s1⟩
  ·rw[d];exact List.Pairwise.nil
  ·exact(h.ord x l1 d).sublist s1
 ·rw[k.pks];rcases k.lanes x l e with d | ⟨l1,d,s1⟩
  ·rw[d] at hi;cases hi
  ·obtain⟨a,b⟩:=h.inn x l1 d i (s1.subset hi);refine⟨a,λt J=> ?_⟩;obtain⟨t1,G,j⟩:=k.strs _ t J;obtain⟨c,H⟩:=b t1 G;have j:=j (h.held _ t1 G).1;exact⟨(j.hi c).1,Int.le_trans H (j.hi c).2⟩
 ·obtain⟨t1,d,j⟩:=k.strs o t e;obtain⟨a,b⟩:=h.held o t1 d;have j:=j a;refine⟨j.ok a,λq I=> ?_⟩;rw[k.pks];exact b q (j.sub q I)
 ·rw[k.pks] at hi ⊢;exact k.has _ (h.org i hi)
def Sqr.lane (I:qh s.lanes x=ϊ l) (J:List.Sublist (EI l') (EI l)) (G:s'.lanes=qx s.lanes x l') (d:s'.strs=s.strs) (H:s'.pks=s.pks):Sqr s s':=by
 refine⟨H,λo t h=>⟨t,by rw[<-d];exact h,λ_=>Jle.refl _⟩,λo h=>by rw[d];exact h,λy m h=> ?_⟩;rw[G,qF] at h;split at h
 ·rename_i e;injection h with e4
  subst e4;subst e;exact ϔ ⟨l,I,J⟩
 ·exact ϔ ⟨m,h,Ϣ _⟩
def Sqr.str (J:qh s.strs o=ϊ t) (I:HJ t.buf->Jle t.buf t'.buf) (d:s'.strs=qx s.strs o t') (G:s'.lanes=s.lanes) (H:s'.pks=s.pks):Sqr s s':=by
 refine⟨H,λq u h=> ?_,λq h=> ?_,λx l h=>ϔ ⟨l,by rw[<-G];exact h,Ϣ _⟩⟩
 ·rw[d,qF] at h;split at h
  ·rename_i e;injection h with e4
   subst e4;subst e;exact⟨t,J,I⟩
  ·exact⟨u,h,λ_=>Jle.refl _⟩
 ·rw[d,qF];split
  ·rfl
  ·exact h
def R7 (s:RmS) (o:Og):Sqr s (s.tick1 o):=by
 unfold RmS.tick1;cases ht:qh s.strs o with
 | none=>exact Sqr.refl s
 | some t=>
  simp only;split
  ·exact Sqr.str ht (t':={t with asks:=(vU s.cfg.space s.cfg.retry t.asks (s.wants o) s.clock).1}) (λ_=>Jle.refl _) rfl rfl rfl
  ·exact Sqr.str ht (t':={t with asks:=(vU s.cfg.space s.cfg.retry t.asks (s.wants o) s.clock).1}) (λ_=>Jle.refl _) rfl rfl rfl
def R9 (s:RmS) (x:Int):Sqr s (s.tell1 x):=by
 unfold RmS.tell1;cases qh s.tab.u x with
 | none=>exact Sqr.refl s
 | some sb=>
  simp only;split
  ·cases qh s.lanes x with
   | none=>exact Sqr.refl s
   | some l=>
    simp only;split
    ·cases ht:qh s.strs (sb.2.2,l.cur) with
     | none=>exact Sqr.refl s
     | some t=>exact Sqr.str ht (t':={t with askedOf:=ό}) (λ_=>Jle.refl _) rfl rfl rfl
    ·exact Sqr.refl s
  ·exact Sqr.refl s
def Ri (s:RmS) (b:List Int):Sqr s (s.tell b):=by
 unfold RmS.tell;split
 ·have d:Sqr s {s with cnt:={s.cnt with told:=s.cnt.told+1}}:=Sqr.same rfl rfl rfl;exact d.trans (Sqr.fold (f:=RmS.tellS) (λs G=>Sqr.fold (f:=RmS.tell1) R9 _ s) _ _)
 ·exact Sqr.same rfl rfl rfl
def RK (s:RmS) (x:Int):Sqr s (s.choose x):=by
 unfold RmS.choose;cases hl:qh s.lanes x with
 | none=>exact Sqr.refl s
 | some l=>exact Sqr.lane hl (OL l) rfl rfl rfl
def Rq (s:RmS) (x:Int):Sqr s (s.rewrite x):=by
 unfold RmS.rewrite;cases hl:qh s.lanes x with
 | none=>exact Sqr.refl s
 | some l=>exact Sqr.lane hl (Ow l) rfl rfl rfl
def OT (s:RmS) (x:Int) (acc:Bool):Sqr s (s.write x acc):=by
 unfold RmS.write;cases hl:qh s.lanes x with
 | none=>exact Sqr.refl s
 | some l=>exact Sqr.lane hl (Ot l acc) rfl rfl rfl
def RI (L:List Int): ∀s:RmS,(L.foldl RmS.drain1 s).pks=s.pks:=by
 induction L with
 | nil=>intro s;rfl
 | cons x L ih=>intro s;rw[ε,ih];rfl
def Oh (s:RmS) (o:Og):Sqr s (s.drainO o):=by
 unfold RmS.drainO;cases ht:qh s.strs o with
 | none=>exact Sqr.refl s
 | some t=>
  simp only;exact Sqr.str ht (t':={t with buf:=vP t.buf}) (λh=>OY _ h) (Qc _ _).2 (Qc _ _).1 (RI _ _)
def OZ (s:RmS) (w:Og):Sqr s (s.drain w):=by
 unfold RmS.drain;split
 ·exact Sqr.same rfl rfl rfl
 ·split
  ·exact Sqr.fold Oh _ s
  ·unfold RmS.drainL;cases hl:qh s.lanes w.2 with
   | none=>exact Sqr.refl s
   | some l=>exact Sqr.lane hl (OV l _) rfl rfl rfl
def Rn (s:RmS) (w:Og):Sqr s (s.endW w):=by
 unfold RmS.endW;split
 ·exact(OZ s w).trans (Sqr.same rfl rfl rfl)
 ·exact OZ s w
def NO (P:List AcS) (a:AcS) {i:Int} (h:0<=i/\i<(P.length:Int)):acP (P++[a]) i=acP P i:=by
 have d:i.toNat<P.length:=by omega
 unfold acP;rw[ϑ,ϑ,ϻ d]
def Rd (P:List AcS) (a:AcS):acP (P++[a]) (P.length:Int)=a:=by
 unfold acP;rw[ο,ϑ,Ϻ (ϕ _),Nat.sub_self];rfl
def Tb {b:Jb} (H:HJ b) (n G x:Int):HJ (jP b n G x).1/\(jP b n G x).1.begun=b.begun/\(jP b n G x).1.hi=b.hi/\ ∀h∈(jP b n G x).1.holds,h=(n,G,x)∨h∈b.holds:=by
 rcases Uz b n G x with ⟨h,_⟩ | ⟨h,J,I,_⟩
 ·rw[h];exact⟨H,rfl,rfl,λk d=>ϔ d⟩
 ·rw[h];refine⟨⟨ZU _ _ H.rise ((GF b n).1 J),λe k d=> ?_⟩,rfl,rfl,λk d=>(Xl _ _ _).1 d⟩;rcases(Xl _ _ _).1 d with rfl | d
  ·exact I e
  ·exact H.over e k d
def EO.accept (h:EO s) (o:Og) (p:Pk):EO (s.accept o p):=by
 unfold RmS.accept;cases ht:qh s.strs o with
 | none=>exact h
 | some t=>
  obtain⟨M,ad⟩:=h.held o t ht;obtain⟨aa,p2,ab,ac⟩:=Tb M (yV t p.sq) s.clock (s.pks.length:Int);have N: ∀G t',qh (qx s.strs o (Ye t p s.clock s.pks.length)) G=ϊ t'->(G=o/\t'=Ye t p s.clock s.pks.length)∨qh s.strs G=ϊ t':=λG t' e=>by
   rw[qF] at e;split at e
   ·rename_i d;injection e with H
    exact ϒ ⟨d,H.symm⟩
   ·exact ϔ e
  refine⟨λx l J=> ?_,λx l J i hi=> ?_,λG t' e=> ?_,λi hi=> ?_⟩
  ·refine List.Pairwise.imp_of_mem (λ{i j} hi M r=> ?_) (h.ord x l J);unfold SX;simp only;rw[NO _ _ (h.inn x l J i hi).1,NO _ _ (h.inn x l J j M).1];exact r
  ·obtain⟨a,b⟩:=h.inn x l J i hi;simp only;rw[NO _ _ a];refine⟨⟨a.1,by simp only[Ϗ,ϙ,Ϫ];omega⟩,λt' e=> ?_⟩;rcases N _ t' e with ⟨d,H⟩ | d
   ·rw[H];obtain⟨c,U⟩:=b t (by rw[d];exact ht);refine⟨?_, ?_⟩
    ·show (jP t.buf (yV t p.sq) s.clock (s.pks.length:Int)).1.begun=ό;rw[p2];exact c
    ·show _<=(jP t.buf (yV t p.sq) s.clock (s.pks.length:Int)).1.hi;rw[ab];exact U
   ·exact b t' d
  ·have O: ∀q u,qh s.strs q=ϊ u-> ∀k∈u.buf.holds,(0<=k.2.2/\k.2.2<((s.pks++[(⟨o,yV t p.sq,p⟩:AcS)]).length:Int))/\(acP (s.pks++[⟨o,yV t p.sq,p⟩]) k.2.2).o=q/\(acP (s.pks++[⟨o,yV t p.sq,p⟩]) k.2.2).num=k.1:=λq u Y k I=>by
    obtain⟨a,b⟩:=(h.held q u Y).2 k I;rw[NO _ _ a];exact⟨⟨a.1,by simp only[Ϗ,ϙ,Ϫ];omega⟩,b⟩
   rcases N G t' e with ⟨d,H⟩ | d
   ·rw[H,d];refine⟨aa,λk I=> ?_⟩;rcases ac k I with rfl | I
    ·simp only;rw[Rd];exact⟨⟨τ,by simp only[Ϗ,ϙ,Ϫ];omega⟩,rfl,rfl⟩
    ·exact O o t ht k I
   ·exact⟨(h.held G t' d).1,O G t' d⟩
  ·simp only[Ϗ,ϙ,Ϫ] at hi;simp only;rw[qF];by_cases e:i<(s.pks.length:Int)
   ·rw[NO _ _ ⟨hi.1,e⟩];split
    ·rfl
    ·exact h.org i ⟨hi.1,e⟩
   ·obtain rfl:i=(s.pks.length:Int):=by omega
    rw[Rd,ϐ rfl];rfl
def EO.puts (d:ItS) (L:List Int): ∀{s:RmS},L.Nodup->EO s->(0<=d.id/\d.id<(s.pks.length:Int))->(∀t,qh s.strs (acP s.pks d.id).o=ϊ t->t.buf.begun=ό/\(acP s.pks d.id).num<=t.buf.hi)->
  (∀x∈L,∀l,qh s.lanes x=ϊ l-> ∀j∈EI l,SX s.pks j d.id)->EO (L.foldl (RmS.put1 d) s):=by
 induction L with
 | nil=>intro s _ h _ _ _;exact h
 | cons x L ih=>
  intro s M h hi Y U;rw[ε];rw[D4] at M;have ae:EO (s.put1 d x)/\(s.put1 d x).pks=s.pks/\(s.put1 d x).strs=s.strs/\ ∀y,y≠x->qh (s.put1 d x).lanes y=qh s.lanes y:=by
   obtain⟨af,ag⟩:=GY d x (s:=s);refine⟨?_,ag,af,λy I=> ?_⟩
   ·unfold RmS.put1;split
    ·cases H:qh s.lanes x with
     | none=>exact h
     | some l=>
      have ad:(EI (xp l d).1).Pairwise (SX s.pks):=by
       refine S3 (Ra l d) ?_;rw[List.pairwise_append];exact⟨h.ord x l H,List.pairwise_singleton _ _,λa aa b O=>by rw[Δ] at O;rw[O];exact U x Ϟ l H a aa⟩
      have key: ∀N,EO {s with lanes:=qx s.lanes x (xp l d).1,book:=N}:=λN=>by
       refine⟨λy m G=> ?_,λy m G i J=> ?_,h.held,h.org⟩
       ·simp only at G;rw[qF] at G;split at G
        ·injection G with e;rw[<-e];exact ad
        ·exact h.ord y m G
       ·simp only at G;rw[qF] at G;split at G
        ·injection G with e
         rw[<-e] at J;rcases ϡ.1 ((Ra l d).subset J) with a | a
         ·exact h.inn x l H i a
         ·rw[Δ] at a;rw[a];exact⟨hi,Y⟩
        ·exact h.inn y m G i J
      simp only;split
      ·exact key _
      ·exact key _
    ·exact h
   ·unfold RmS.put1;split
    ·cases H:qh s.lanes x with
     | none=>rfl
     | some l=>simp only;split<;>simp only<;>rw[qF,ώ I]
    ·rfl
  obtain⟨s1,s2,ah,ai⟩:=ae;refine ih M.2 s1 (by rw[s2];exact hi) (by rw[s2,ah];exact Y) λy I l H j ab=> ?_
  rw[s2];have ac:y≠x:=λe=>M.1 (by rw[<-e];exact I)
  rw[ai y ac] at H;exact U y (Ϩ _ I) l H j ab
def EO.order (h:EO s):EO s.order:=by
 unfold RmS.order;cases hy:s.ready with
 | none=>exact h
 | some o=>
  simp only;cases ht:qh s.strs o with
  | none=>exact h
  | some t=>
   simp only;have G:xa t.buf s.clock=ό:=by
    have:=R4 hy;unfold RmS.readyAt at this;rw[ht] at this;exact this
   cases hb:t.buf.holds with
   | nil=>unfold xa at G;rw[hb] at G;cases G
   | cons hd T=>
    obtain⟨J,N⟩:=h.held o t ht;obtain⟨ab,H,I⟩:=N hd (by rw[hb];exact Ϟ);have aa:yD t.buf s.clock=(xT t.buf,hd.1,hd.2.2,ό):=by unfold yD;rw[hb];simp only[G,A0]
    have Y:=Rm J hb;unfold RmS.orderAt;rw[aa];simp only;have M:EO {s with strs:=qx s.strs o {t with buf:=xT t.buf}}:=h.by (Sqr.str ht (t':={t with buf:=xT t.buf}) (λac=>Rl ac) rfl rfl rfl);refine EO.puts (s.item o hd.2.2) subIds ζ M ab (λu d=> ?_) (λx _ l U j O=> ?_)
    ·have e:(acP s.pks hd.2.2).o=o:=H;simp only at d;rw[show (s.item o hd.2.2).id=hd.2.2 from rfl,e,qF,ϐ rfl] at d;injection d with d
     rw[<-d];simp only;rw[Y];refine⟨rfl, ?_⟩;show (acP s.pks hd.2.2).num<=hd.1;rw[I];exact P4 _
    ·obtain⟨a,b⟩:=h.inn x l U j O;show j≠hd.2.2/\((acP s.pks j).o=(acP s.pks hd.2.2).o->(acP s.pks j).num<(acP s.pks hd.2.2).num);have key:(acP s.pks j).o=o->(acP s.pks j).num<hd.1:=λe=>by
      obtain⟨c,ad⟩:=b t (by rw[e];exact ht);have:=J.over c hd (by rw[hb];exact Ϟ);omega
     refine⟨λe=> ?_,λe=> ?_⟩
     ·have:=key (by rw[e];exact H);rw[e,I] at this;omega
     ·rw[I];exact key (by rw[e];exact H)
def EO.publish (h:EO s) (M:Gm s) (N: ∀o t,qh s.strs o=ϊ t->o∈orgs) (p s0 s1 s2:Int):EO (s.publish p s0 s1 s2).1:=by
 unfold RmS.publish;split
 ·exact h
 ·split
  ·rename_i d;have I: ∀k,qh s.strs (p,k)=ϋ:=λk=>by
    cases G:qh s.strs (p,k) with
    | none=>rfl
    | some t=>
     have:=M.str p k (XD (N _ t G));rw[G] at this;unfold vA at d;split at d
     ·split at d
      ·simp at d
      ·split at d
       ·simp at d
       ·rename_i U;exact ϩ this.symm U
     ·simp at d
   have J: ∀o t,qh (qx (qx (qx s.strs (p,0) (uc s.cfg)) (p,1) (uc s.cfg)) (p,2) (uc s.cfg)) o=ϊ t->(t=uc s.cfg/\qh s.strs o=ϋ)∨qh s.strs o=ϊ t:=by
    intro o t a;rw[qF] at a;split at a
    ·rename_i H;injection a with e;exact ϒ ⟨e.symm,by rw[H];exact I _⟩
    ·rw[qF] at a;split at a
     ·rename_i H;injection a with e;exact ϒ ⟨e.symm,by rw[H];exact I _⟩
     ·rw[qF] at a;split at a
      ·rename_i H;injection a with e;exact ϒ ⟨e.symm,by rw[H];exact I _⟩
      ·exact ϔ a
   refine⟨h.ord,λx l O i hi=> ?_,λo t e=> ?_,λi hi=> ?_⟩
   ·obtain⟨a,b⟩:=h.inn x l O i hi;refine⟨a,λt e=> ?_⟩;rcases J _ t e with ⟨_,c⟩ | c
    ·have:=h.org i a;rw[c] at this;cases this
    ·exact b t c
   ·rcases J o t e with ⟨c,_⟩ | c
    ·rw[c];exact⟨⟨List.Pairwise.nil,λ_ k G=>by cases G⟩,λk G=>by cases G⟩
    ·exact h.held o t c
   ·have:=h.org i hi;simp only;rw[qF,qF,qF];split
    ·rfl
    ·split
     ·rfl
     ·split
      ·rfl
      ·exact this
  ·exact h
def Rg (s:RmS) (d:qh s.lanes x=ϊ l) (k:Int) {T:TS}:Sqr s {s with tab:=T,lanes:=qx s.lanes x (jO l k).1}:=
 Sqr.lane d (by rw[OJ];exact Ϣ _) rfl rfl rfl
def EO.act (h:EO s) (H:qV n s) (a:A22):EO (doR s a).1:=by
 have I: ∀w acc,EO (s.stepW w acc):=λw acc=>by
  unfold RmS.stepW;split
  ·exact h.by (Rn s w)
  ·split
   ·unfold RmS.read;cases hq:s.queue with
    | nil=>exact h
    | cons b q=>
     simp only;have G:EO {s with queue:=q}:=h.by (Sqr.same rfl rfl rfl);split
     ·exact G.by (Ri _ b)
     ·unfold RmS.media;split
      ·cases qh ({s with queue:=q}:RmS).tab.o (jl b).1.sc with
       | none=>exact G.by (Sqr.same rfl rfl rfl)
       | some o=>exact G.accept o _
      ·exact G.by (Sqr.same rfl rfl rfl)
   ·split
    ·exact h.order
    ·split
     ·exact h.by (RK s _)
     ·split
      ·exact h.by (Rq s _)
      ·exact h.by (OT s _ _)
 unfold doR;split
 ·unfold RmS.arrive;split
  ·exact h
  ·split<;>exact h.by (Sqr.same rfl rfl rfl)
 ·split
  ·unfold RmS.pick;split
   ·exact I _ _
   ·exact h
  ·split
   ·unfold RmS.tick;split
    ·exact h
    ·have G:Sqr s {s with clock:=s.clock+1}:=Sqr.same rfl rfl rfl;exact h.by (G.trans (Sqr.fold (f:=RmS.tick1) R7 _ _))
   ·split
    ·exact h.publish H.tb H.ow.org _ _ _ _
    ·split
     ·unfold RmS.join;split
      ·exact h
      ·split
       ·refine h.by ⟨rfl,λo t e=>⟨t,e,λ_=>Jle.refl _⟩,λo e=>e,λy m d=> ?_⟩;simp only at d;rw[qF] at d;split at d
        ·injection d with e;rw[<-e];exact ϒ rfl
        ·exact ϔ ⟨m,d,Ϣ _⟩
       ·exact h
     ·split
      ·unfold RmS.subscribe;split
       ·exact h
       ·split
        ·exact h
        ·split
         ·exact h
         ·split
          ·cases hl:qh s.lanes a.sub with
           | none=>exact h
           | some l=>exact h.by (Rg s hl _)
          ·exact h
      ·split
       ·unfold RmS.want;split
        ·exact h
        ·split
         ·exact h
         ·split
          ·exact h
          ·cases hl:qh s.lanes a.sub with
           | none=>exact h
           | some l=>exact h.by (Rg s hl _ (T:=s.tab))
       ·split
        ·unfold RmS.leave;split
         ·exact h
         ·split
          ·refine h.by ⟨rfl,λo t e=>⟨t,e,λ_=>Jle.refl _⟩,λo e=>e,λy m d=> ?_⟩;simp only at d;rw[uR] at d;split at d
           ·cases d
           ·exact ϔ ⟨m,d,Ϣ _⟩
          ·exact h
        ·split
         ·unfold RmS.shut;split
          ·exact h
          ·exact h.by (Sqr.same rfl rfl rfl)
         ·exact h
def Rx (P:List AcS) (src:Int) (c:Int×List Int):Prop:= ∃sq st,U16 sq/\U32 st/\c.2=pkB {(acP P c.1).pk with sq:=sq,st:=st,sc:=src}
structure Oe (P:List AcS) (l:LnS):Prop where
 A: ∀x∈l.A,x.pk=(acP P x.id).pk
 B: ∀p∈l.B,p.1.pk=(acP P p.1.id).pk
 C: ∀c∈l.C,Rx P l.rw.src c
 W: ∀c∈l.W,Rx P l.rw.src c
 sq:U16 l.rw.sq
section
variable {P:List AcS} {l:LnS}
def Sm (h:Oe P l) (x:ItS) (G:x.pk=(acP P x.id).pk):Oe P (xp l x).1:=by
 rcases Rc (s:=l) x with ⟨e,_⟩ | ⟨_,_,_,_,_,e,_⟩<;>rw[e]
 ·exact h
 ·refine⟨λy d=> ?_,h.B,h.C,h.W,h.sq⟩;simp only at d;split at d
  ·rcases ϡ.1 d with d | d
   ·exact h.A y d
   ·rw[Δ] at d;rw[d];exact G
  ·rcases ϡ.1 d with d | d
   ·exact h.A y (N1 d)
   ·rw[Δ] at d;rw[d];exact G
def Sf (h:Oe P l):Oe P (jf l).1:=by
 rcases XJ (s:=l) with ⟨_,e⟩ | ⟨_,x,A,H,_,e⟩<;>rw[e]
 ·exact h
 ·have G: ∀y∈x::A,y.pk=(acP P y.id).pk:=by rw[<-H];exact h.A
  refine⟨λy I=>G y (Ϩ _ I),λp d=> ?_,h.C,h.W,h.sq⟩;simp only at d;split at d
  ·rcases ϡ.1 d with d | d
   ·exact h.B p d
   ·rw[Δ] at d;rw[d];exact G x Ϟ
  ·exact h.B p d
def RG (h:Oe P l):Oe P (qY l).1:=by
 rcases MZ (s:=l) with ⟨_,e⟩ | ⟨x,f,B,I,e⟩<;>rw[e]
 ·exact h
 ·have G: ∀p∈(x,f)::B,p.1.pk=(acP P p.1.id).pk:=by rw[<-I];exact h.B
  have H:Rx P l.rw.src (x.id,pkB (kY l.rw x.pk f)):=by
   refine⟨l.rw.sq,(x.pk.st+shL l.rw x.pk.st f)%4294967296,h.sq, ?_, ?_⟩
   ·unfold U32;omega
   ·have:=G (x,f) Ϟ;simp only at this;show pkB (kY l.rw x.pk f)=_;unfold kY;rw[this]
  refine⟨h.A,λp J=>G p (Ϩ _ J),λc d=> ?_,h.W, ?_⟩
  ·simp only at d;show Rx P l.rw.src c;split at d
   ·rcases ϡ.1 d with d | d
    ·exact h.C c d
    ·rw[Δ] at d;rw[d];exact H
   ·rcases ϡ.1 d with d | d
    ·exact h.C c (N1 d)
    ·rw[Δ] at d;rw[d];exact H
  ·show U16 ((l.rw.sq+1)%65536);unfold U16;omega
def SK (h:Oe P l) (acc:Bool):Oe P (qX l acc).1:=by
 rcases uV (s:=l) acc with ⟨_,e⟩ | ⟨o,C,I,e⟩
 ·rw[e];exact h
 ·have H: ∀c∈o::C,Rx P l.rw.src c:=by rw[<-I];exact h.C
  rcases e with ⟨_,e⟩ | ⟨_,_,_,e⟩<;>rw[e]
  ·refine⟨h.A,h.B,λc d=> ?_,λc d=> ?_,h.sq⟩
   ·simp only at d;split at d
    ·exact H c (Ϩ _ d)
    ·exact H c d
   ·simp only at d;split at d
    ·rcases ϡ.1 d with d | d
     ·exact h.W c d
     ·rw[Δ] at d;rw[d];exact H o Ϟ
    ·exact h.W c d
  ·exact⟨λ_ G=>(by cases G),λ_ G=>(by cases G),λ_ G=>(by cases G),h.W,h.sq⟩
def SN (h:Oe P l) (n:Int):Oe P (vh l n):=by
 unfold vh;refine⟨λy d=> ?_,λy d=> ?_,λy d=> ?_,h.W,h.sq⟩<;>simp only at d<;>split at d
 ·cases d
 ·exact h.A y d
 ·cases d
 ·exact h.B y d
 ·cases d
 ·exact h.C y d
def RS (h:Oe P l) (n:Int):Oe P (jO l n).1:=by
 rcases NR (s:=l) n with e | ⟨_,e⟩<;>rw[e]
 ·exact h
 ·exact⟨h.A,h.B,h.C,h.W,h.sq⟩
def Th (h:Oe P l) (a:AcS) (hi: ∀i∈EI l,0<=i/\i<(P.length:Int)):Oe (P++[a]) l:=by
 have m: ∀i,(i∈l.A.map (λx=>x.id)∨i∈l.B.map (λp=>p.1.id)∨i∈l.C.map Prod.fst∨i∈l.W.map Prod.fst)->acP (P++[a]) i=acP P i:=λi I=>NO _ _ (hi i (by
  unfold EI;simp only[ϡ];rcases I with e | e | e | e
  ·exact ϔ (ϔ (ϔ e))
  ·exact ϔ (ϔ (ϒ e))
  ·exact ϔ (ϒ e)
  ·exact ϒ e))
 refine⟨λx H=> ?_,λp G=> ?_,λc d=> ?_,λc d=> ?_,h.sq⟩
 ·rw[m x.id (ϒ (B6.2 ⟨x,H,rfl⟩))];exact h.A x H
 ·rw[m p.1.id (ϔ (ϒ (B6.2 ⟨p,G,rfl⟩)))];exact h.B p G
 ·have:=h.C c d;unfold Rx at this ⊢;rw[m c.1 (ϔ (ϔ (ϒ (B6.2 ⟨c,d,rfl⟩))))];exact this
 ·have:=h.W c d;unfold Rx at this ⊢;rw[m c.1 (ϔ (ϔ (ϔ (B6.2 ⟨c,d,rfl⟩))))];exact this
end
def NG (s:RmS):Prop:= ∀x l,qh s.lanes x=ϊ l->Oe s.pks l
def NG.same (h:NG s) (G:s'.lanes=s.lanes) (H:s'.pks=s.pks):NG s':=λx l d=>by rw[H];rw[G] at d;exact h x l d
def NG.put (h:NG s) (I:Oe s.pks l') (G:s'.lanes=qx s.lanes x l') (H:s'.pks=s.pks):NG s':=λy m d=>by
 rw[G,qF] at d;rw[H];split at d
 ·injection d with e;rw[<-e];exact I
 ·exact h y m d
def Sc (s:RmS) (x:Int):(s.tell1 x).lanes=s.lanes/\(s.tell1 x).pks=s.pks:=by
 unfold RmS.tell1;cases qh s.tab.u x with
 | none=>exact⟨rfl,rfl⟩
 | some sb=>
  simp only;split
  ·cases qh s.lanes x with
   | none=>exact⟨rfl,rfl⟩
   | some l=>
    simp only;split
    ·cases qh s.strs (sb.2.2,l.cur)<;>exact⟨rfl,rfl⟩
    ·exact⟨rfl,rfl⟩
  ·exact⟨rfl,rfl⟩
def NU (d: ∀s a,(f s a).lanes=s.lanes/\(f s a).pks=s.pks): ∀(L:List α) (s:RmS),(L.foldl f s).lanes=s.lanes/\(L.foldl f s).pks=s.pks
 | [],_=>⟨rfl,rfl⟩
 | a::L,s=>by
  rw[ε];exact⟨(NU d L _).1.trans (d s a).1,(NU d L _).2.trans (d s a).2⟩
def OI (s:RmS) (b:List Int):(s.tell b).lanes=s.lanes/\(s.tell b).pks=s.pks:=by
 unfold RmS.tell;split
 ·exact NU (f:=RmS.tellS) (λs d=>NU (f:=RmS.tell1) Sc _ s) _ _
 ·exact⟨rfl,rfl⟩
def NG.drain (h:NG s) (w:Og):NG (s.drain w):=by
 unfold RmS.drain;split
 ·exact h.same rfl rfl
 ·split
  ·obtain⟨a,b⟩:=NU (f:=RmS.drainO) (λs o=>⟨(Ko s o).1,(Oh s o).pks⟩) s.origins s;exact h.same a b
  ·unfold RmS.drainL;cases hl:qh s.lanes w.2 with
   | none=>exact h
   | some l=>exact h.put (SN (h _ l hl) _) rfl rfl
def NG.puts (d:ItS): ∀(L:List Int) {s:RmS},NG s->d.pk=(acP s.pks d.id).pk->NG (L.foldl (RmS.put1 d) s)
 | [],_,h,_=>h
 | x::L,s,h,hi=>by
  rw[ε];refine NG.puts d L ?_ (by rw[(GY d x).2];exact hi);unfold RmS.put1;split
  ·cases hl:qh s.lanes x with
   | none=>exact h
   | some l=>
    simp only;split
    ·exact h.put (Sm (h x l hl) d hi) rfl rfl
    ·exact h.put (Sm (h x l hl) d hi) rfl rfl
  ·exact h
def NG.order (h:NG s):NG s.order:=by
 unfold RmS.order;cases s.ready with
 | none=>exact h
 | some o=>
  simp only;cases qh s.strs o with
  | none=>exact h
  | some t=>
   simp only;unfold RmS.orderAt;exact NG.puts _ subIds (h.same (s':={s with strs:=qx s.strs o {t with buf:=(yD t.buf s.clock).1}}) rfl rfl) rfl
def NG.act (h:NG s) (N:EO s) (a:A22) (M:U16 a.seq):NG (doR s a).1:=by
 have O: ∀w acc,NG (s.stepW w acc):=λw acc=>by
  unfold RmS.stepW;split
  ·unfold RmS.endW;split
   ·exact(h.drain w).same rfl rfl
   ·exact h.drain w
  ·split
   ·unfold RmS.read;cases s.queue with
    | nil=>exact h
    | cons b q=>
     simp only;split
     ·obtain⟨I,J⟩:=OI {s with queue:=q} b;exact h.same I J
     ·unfold RmS.media;split
      ·cases qh ({s with queue:=q}:RmS).tab.o (jl b).1.sc with
       | none=>exact h.same rfl rfl
       | some o=>
        simp only;unfold RmS.accept;cases qh ({s with queue:=q}:RmS).strs o with
        | none=>exact h.same rfl rfl
        | some t=>exact λx l d=>Th (h x l d) _ λi hi=>(N.inn x l d i hi).1
      ·exact h.same rfl rfl
   ·split
    ·exact h.order
    ·split
     ·unfold RmS.choose;cases d:qh s.lanes w.2 with
      | none=>exact h
      | some l=>exact h.put (Sf (h _ l d)) rfl rfl
     ·split
      ·unfold RmS.rewrite;cases d:qh s.lanes w.2 with
       | none=>exact h
       | some l=>exact h.put (RG (h _ l d)) rfl rfl
      ·unfold RmS.write;cases d:qh s.lanes w.2 with
       | none=>exact h
       | some l=>exact h.put (SK (h _ l d) acc) rfl rfl
 unfold doR;split
 ·unfold RmS.arrive;split
  ·exact h
  ·split<;>exact h.same rfl rfl
 ·split
  ·unfold RmS.pick;split
   ·exact O _ _
   ·exact h
  ·split
   ·unfold RmS.tick;split
    ·exact h
    ·have k:=ur s.origins {s with clock:=s.clock+1};exact h.same k.lanes k.pks
   ·split
    ·unfold RmS.publish;split
     ·exact h
     ·split
      ·exact h.same rfl rfl
      ·exact h
    ·split
     ·unfold RmS.join;split
      ·exact h
      ·split
       ·exact h.put (l':=Vd s.cfg.room.toNat s.cfg.most a.own a.seq a.stamp) ⟨λ_ G=>(by cases G),λ_ G=>(by cases G),λ_ G=>(by cases G),λ_ G=>(by cases G),M⟩ rfl rfl
       ·exact h
     ·split
      ·unfold RmS.subscribe;split
       ·exact h
       ·split
        ·exact h
        ·split
         ·exact h
         ·split
          ·cases d:qh s.lanes a.sub with
           | none=>exact h
           | some l=>exact h.put (RS (h _ l d) _) rfl rfl
          ·exact h
      ·split
       ·unfold RmS.want;split
        ·exact h
        ·split
         ·exact h
         ·split
          ·exact h
          ·cases d:qh s.lanes a.sub with
           | none=>exact h
           | some l=>exact h.put (RS (h _ l d) _) rfl rfl
       ·split
        ·unfold RmS.leave;split
         ·exact h
         ·split
          ·intro y m H;simp only at H;rw[uR] at H;split at H
           ·cases H
           ·exact h y m H
          ·exact h
        ·split
         ·unfold RmS.shut;split
          ·exact h
          ·exact h.same rfl rfl
         ·exact h
end Go.Proofs.YtlmllmonabafjaaGreatDoor
