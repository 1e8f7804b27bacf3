/- Contracts and plain laws. -/
import Derived.Test.YtlmllmonabafjaaGreatDoorMg12
namespace Go.Proofs.YtlmllmonabafjaaGreatDoor
open Go.Value renaming bool->μ,slice->δ,pointer->π,agg->θ
open Go.IntKind renaming i64->ι,u8->υ,u16->φ,u32->ω,i32->χ,u64->ψ
open _root_.Go.Proofs.Tryz
set_option linter.unusedSimpArgs false
set_option maxHeartbeats 8000000
set_option linter.unusedVariables false
open Go.RowKit
set_option maxRecDepth 100000
theorem QI {K V:Type} [DecidableEq K] (m:List (K×V)) (k:K) (v u:V):qw (qw m k v) k u=qw m k u:=by
 induction m with
 | nil=>simp[qw]
 | cons p m ih=>
  obtain⟨a,x⟩:=p;by_cases e:k=a
  ·simp[qw,e]
  ·simp[qw,e,ih]
theorem ZU {K V:Type} [DecidableEq K] (m:List (K×V)) (k:K) (v:V) (h:qh m k=some v):qw m k v=m:=by
 induction m with
 | nil=>cases h
 | cons p m ih=>
  obtain⟨a,x⟩:=p;by_cases e:k=a
  ·simp[qh,e] at h;simp[qw,e,h]
  ·simp[qh,e] at h;simp[qw,e,ih h]
def Ai (P:Nat->Prop) (vs ve vp:Value) (p:Pk):Prop:=(p.ss≠[]-> ∀g,vs.ownBlock=some g->P g)/\(p.ex≠[]-> ∀g,ve.ownBlock=some g->P g)/\(p.pl≠[]-> ∀g,vp.ownBlock=some g->P g)
theorem SlI.stay {k:IntKind} {F:List Nat} {w w':World} {v:Value} {l:List Int} (h:SlI k w v l) (I:l≠[]-> ∀b,v.ownBlock=some b->b∈F) (a:qt F w w'):SlI k w' v l:=by
 obtain⟨O,cap,rfl,d,G,H⟩:=h;refine⟨O,cap,rfl,d,λi hi=> ?_,H⟩;obtain⟨b,U,rfl,N,J⟩:=G i hi;exact⟨b,U,rfl,Nat.lt_of_lt_of_le N a.1,by rw[World.cell?_of_block (a.2 b (I (λe=>by rw[e] at hi;simp at hi) b rfl))];exact J⟩
theorem PkS.stay {F:List Nat} {w w':World} {H G vp:Value} {p:Pk} (h:PkS w H G vp p) (d:Ai (· ∈F) H G vp p) (a:qt F w w'):PkS w' H G vp p:=
 ⟨h.s.stay d.1 a,h.e.stay d.2.1 a,h.l.stay d.2.2 a⟩
section
variable {w0 w w':World} {k:RmK} {s:RmS} {F Fn:List Nat}
theorem Hf (eE:qF w0 w k s (Fn++F)) (ds:xZ s) (G o2:Int) {t:zu} (ak:qh s.strs (G,o2)=some t) (p:Pk) (bg be bf:Value) (aV:PkS w bg be bf p)
  (df:Ai (· ∈Fn) bg be bf p) (dg: ∀g∈Fn,g∉F) (dq:U16 p.sq) (dl:xz (vP t p.sq)) (ai:t.any=true->xz t.great) (de:xz s.clock) (fG:s.pks.length<=1000000) (eN:0<=s.cnt.acc/\s.cnt.acc<=1000000000) (dm:Byt p.pl) (dn:p.pl.length<=1000000):
  Calls prog 132 #[γ k.R,θ #[ι G,ι o2],(Γq p bg be bf)] w λe w'=>e= .returned (.tuple #[])/\qF w0 w' k (s.accept (G,o2) p) F/\qt F w w':=by
 obtain⟨w4,bx⟩:=ν (w.alloc (.cells #[ι G,ι o2] 58));obtain⟨W1,bt⟩:=ν (w4.alloc (.cells (Γq p bg be bf) 63));have bA:qa w w4:=by rw[<-bx];exact qa.alloc _ _
 have cr:qa w4 W1:=by rw[<-bt];exact qa.alloc _ _
 have bj:Hid (W1.heap[w.heap.size]? =some (.cells #[ι G,ι o2] 58 (0,0))):=κ (qc cr (by rw[<-bx];exact qk w _));have aK:Hid (W1.heap[w4.heap.size]? =some (.cells (Γq p bg be bf) 63 (0,0))):=κ (by rw[<-bt];exact qk w4 _);have bT:=κ (bA.trans cr);obtain⟨T,vp,fk,h⟩:=eE
 have bY:RmX T w0 W1 k vp fk s ([w.heap.size,w4.heap.size]++(Fn++F)):=h.adds bT.o (λb d=>by
  have eF:=ql bj.o;have eG:=ql aK.o;have:=bA.size;simp at d;rcases d with rfl | rfl
  ·exact⟨Nat.le_refl _,eF⟩
  ·exact⟨this,eG⟩)
 have aO:=κ bY;have eo:=κ bA;have eg:Hid (∀b∈Fn,b<w.heap.size):=κ (λb d=>(h.law b (List.mem_append_left _ d)).2.2);have eq:=κ (h.at.stay bT.o);obtain⟨ab,fp,vb,dp,dv⟩:=bY.strAt ak;have aH:=κ dp;have br:=κ dv;have bM:=κ ak;have el:=κ (aV.keep bT.o);have ar:=κ df;have ee:=κ dg;have bL:=κ ds;have dS:=λ(x:qp W1)=>β13 (qc x.h aO.o.blk)
 have bR:=λ(x:qp W1)=>qc x.h bj.o
 have aM:=λx=>β0 (bR x);have bD:=λx=>β1 (bR x);clear bR
 have dV: ∀x:qp W1,(Instr.lookup 91 (.map (some k.MS)) (θ #[ι G,ι o2]) false).run prog x.w'= .ok (γ ab) x.w':=λx=>by
  have:=yf (aO.o.stm.more x.h) (G,o2) false;rw[aH.o] at this;exact this
 obtain⟨cu,dt⟩:=ν (t.any);have aI:=κ dt;obtain⟨n,ck⟩:=ν (vP t p.sq);have bn:=κ ck;have bK:=κ dl;have eh:=κ ai;have cM:=κ dq;have ec:=κ de;have cJ:=κ (And.intro dm dn);rw[ck] at bK;obtain⟨os,am,rfl,eT⟩:=id aV.s;obtain⟨an,ke,rfl,eO⟩:=id aV.e;obtain⟨af,ae,rfl,eQ⟩:=id aV.l;clear dm dn h bY dp dv ak aV df dg ds dt ck dl ai dq de bA cr eT eO eQ
 go_enter func132,ntmps132
 go_upto_region 1 with fail
 (try rw[bx])
 (try rw[bt])
 clear bx bt;refine qz _ (qa.refl _) ξ ξ ?_
 repeat (go_big_quiet_step (fail))
 refine wpQuiet_nil ?_;intro _ eV;obtain⟨dJ,rfl⟩:=eV;obtain⟨W2,cd⟩:=ν (dJ.w');have aw:Hid (qa W1 W2):=κ (by rw[<-cd];exact dJ.h);rw[cd];clear cd dS aM bD dV;have ct:=β2 (qc aw.o aK.o);have t1:=β1 (qc aw.o br.o.blk);have t2:=β2 (qc aw.o br.o.blk);rw[aI.o] at t1
 go_upto_if 28 with (go_at_call 191;(go_call Wn p.sq cM.o _ as e fV ⟨rfl,ey⟩;obtain rfl:=ey))
 go_cut [7] from 29 (λv ag=>v= ι n/\qa W2 ag)
 case first=>
  cases cu with
  | false=>
   go_wp2;go_meet;exact⟨by rw[<-bn.o];unfold vP;rw[aI.o];rfl,qa.refl _⟩
  | true=>
   have fo:=λ(x:qp W2)=>β2 (qc (aw.o.trans x.h) aK.o)
   have fn:=λ(x:qp W2)=>β2 (qc (aw.o.trans x.h) br.o.blk)
   go_upto_region 4 with fail
   refine Qn W2 9 9 [7] ?_
   refine Qq7 ?_
   (refine Ql ?_;intro K H)
   go_call Wy t.great p.sq (eh.o aI.o) cM.o _ as e w5 ⟨rfl,rfl⟩;refine⟨_,rfl,qj ρ,H _ _ ?_⟩;clear H K
   refine Qq1 ?_
   refine qv ?_;go_wp2;go_meet;exact⟨by rw[<-bn.o];unfold vP;rw[aI.o];rfl,ρ⟩
 case rest=>
 obtain⟨rfl,ay⟩:=hcut;obtain⟨bl,ca⟩:=ν ([w.heap.size,w4.heap.size]++(Fn++F));rw[ca] at aO;have au:=κ ca;have cS:=κ (aO.o.on (aw.o.trans ay));have aP:=κ (br.o.on (aw.o.trans ay));have ep:=κ (aO.o.at.stay (aw.o.trans ay));clear ay ct t1 t2 ca;have t1:=β1 aP.o.blk;have t2:=β2 aP.o.blk;have fE:=qd aP.o.blk 2;rw[aI.o] at t1;obtain⟨c,dd⟩: ∃c:Bool,(!cu||decide (t.great<n))=c:=⟨_,rfl⟩;have bG:=κ dd;clear dd
 go_upto_region 5 with fail
 go_cut [49] from 50 (λv ag=>v= μ c/\ag=wc)
 case first=>
  cases cu with
  | false=>
   go_wp2;go_meet;exact⟨by rw[<-bG.o];rfl,rfl⟩
  | true=>
   go_wp2;go_meet;exact⟨by rw[<-bG.o];rfl,rfl⟩
 case rest=>
 obtain⟨rfl,ez⟩:=hcut;obtain rfl:=ez.symm
 go_upto_if 49 with fail
 obtain⟨fx,eJ⟩:=ν (wc);subst eJ;obtain⟨aT,dk⟩:=ν ((if c then n else t.great));have bJ:=κ dk;clear dk
 go_cut [] from 50 (λag=>qF w0 ag k {s with strs:=qw s.strs (G,o2) {t with great:=aT}} bl/\qt bl wc ag)
 case first=>
  cases c with
  | false=>
   have bH:Hid ({s with strs:=qw s.strs (G,o2) {t with great:=aT}}=s):=κ (by rw[<-bJ.o];show {s with strs:=qw s.strs (G,o2) t}=s;rw[ZU _ _ _ bM.o]);go_wp2;go_meet;exact⟨by rw[bH.o];exact cS.o.at,qt.refl _ _⟩
  | true=>
   have aq:=κ (cS.o.strSet (t':={t with great:=aT}) bM.o aH.o aP.o (qg.set (S:=λb=>b=ab) (qg.refl _ _) (p:=⟨ab,2,none⟩) rfl (ι n)) (qA (qo aP.o.blk 2 _) (by rw[<-bJ.o];rfl)) rfl);go_wp2;go_meet;exact aq.o
 case rest=>
 obtain⟨bZ,bd⟩:=hcut;have cW:=κ (ep.o.trans bd);obtain⟨fw,fQ,fU,cx⟩:=bZ;obtain⟨fc,fq,fL,bu,aY⟩:=cx.strAt (o:=(G,o2)) (xC _ _ _);obtain rfl:ab=fc:=by rw[aH.o] at bu;injection bu
 have eu:=β1 aY.blk;have eA:=qd aY.blk 1;have Y:=κ (cx.strSet (t':={t with great:=aT,any:=true}) (xC _ _ _) bu aY (qg.set (S:=λb=>b=ab) (qg.refl _ _) (p:=⟨ab,1,none⟩) rfl (μ true)) (qA (qo aY.blk 1 _) rfl) rfl);simp only[QI] at Y;obtain⟨t2,cp⟩: ∃t2:zu,{t with great:=aT,any:=true}=t2:=⟨_,rfl⟩;have cR:=κ cp;clear bd cx bu aY
 go_upto_region 8 with fail
 obtain⟨W7,ce⟩:=ν (wc.setCell ⟨ab,1,none⟩ (μ true));rw[ce] at Y
 (try rw[ce])
 clear ce eu eA;have dY:Hid (qF w0 W7 k {s with strs:=qw s.strs (G,o2) t2} bl):=κ (by rw[<-cp];exact Y.o.1);have aj:=κ (cW.o.trans Y.o.2);clear cp Y cW;obtain⟨fu,fi,fl,aB⟩:=dY.o;obtain⟨N,_,J,rfl,rfl,_⟩:=(aB.all .pks).1.shape;have bQ:=κ aB;have bX:=β14 aB.blk;clear aB
 go_upto_region 9 with fail
 clear bX;have cK:=κ (el.o.stay (F:=bl) ⟨λI g ai=>by rw[<-au.o];exact List.mem_append_right _ (List.mem_append_left _ (ar.o.1 I g ai)),λI g ai=>by rw[<-au.o];exact List.mem_append_right _ (List.mem_append_left _ (ar.o.2.1 I g ai)),λI g ai=>by rw[<-au.o];exact List.mem_append_right _ (List.mem_append_left _ (ar.o.2.2 I g ai))⟩ aj.o);have ef:Hid (∀b∈Fn,b<w.heap.size):=κ eg.o
 obtain⟨ad,dI,cZ,_⟩:=(bQ.o.sub (F':=[w.heap.size,w4.heap.size]++F) (λb d=>by
  rw[<-au.o];rcases List.mem_append.1 d with e | e
  ·exact List.mem_append_left _ e
  ·exact List.mem_append_right _ (List.mem_append_right _ e))).data (λb=>b∈Fn) (λb d=>by
   obtain⟨fg,ct,fh⟩:=bQ.o.law b (by rw[<-au.o];exact List.mem_append_right _ (List.mem_append_left _ d));refine⟨fg,ct,fh,λeK=> ?_⟩;rcases List.mem_append.1 eK with e | e
   ·have fW:=ef.o b d;have fX:=eo.o.size;simp at e;omega
   ·exact ee.o b d e)
 have U:=κ dI;have bp:=κ cZ;clear dI cZ bQ;have dM:=κ (aj.o.blk (by rw[<-au.o];simp) bj.o);have dO:=κ (aj.o.blk (by rw[<-au.o];simp) aK.o);obtain⟨_,du⟩:=U.o.all .pks;have aN:=κ du;clear du;have aJ: ¬(δ N s.pks.length J).ownBlock=some k.R:=λe=>by have:=aN.o _ e;rw[(U.o.all .room).1] at this;cases this
 have dy: ¬(δ N s.pks.length J).ownBlock=some w.heap.size:=λe=>by have:=aN.o _ e;rw[(U.o.law w.heap.size η).1] at this;cases this
 have dz: ¬(δ N s.pks.length J).ownBlock=some w4.heap.size:=λe=>by have:=aN.o _ e;rw[(U.o.law w4.heap.size η).1] at this;cases this
 have dT:=λ(x:qu (λb=>(δ N s.pks.length J).ownBlock=some b) W7)=>β14 (x.h.blk U.o.blk aJ)
 have bS:=λ(x:qu (λb=>(δ N s.pks.length J).ownBlock=some b) W7)=>x.h.blk dM.o dy
 have aM:=λx=>β0 (bS x);have bD:=λx=>β1 (bS x);clear bS
 have cF: ∀x:qu (λb=>(δ N s.pks.length J).ownBlock=some b) W7,x.w'.rangeAt w4.heap.size 0 (Γh p os am an ke af ae):=λx=>xw (x.h.blk dO.o dz)
 obtain⟨eZ,hi,eW,eX,eY⟩:=info_parts (P:=prog) (e:=65) (z:= θ #[ι 0,ι 0,ι 0,false,υ 0,φ 0,ω 0,ω 0,(),false,φ 0,(),()]) (size:=13) (bytes:=120) ξ;refine QN (λb=>(δ N s.pks.length J).ownBlock=some b) W7 13 14 [9,10,11,13] ?_
 refine Qs7 ?_
 refine je rfl rfl (qi σ) 63 (.tmp 5) rfl w4.heap.size 0 rfl (Γh p os am an ke af ae) _ (λw' aa=>by obtain⟨x,rfl⟩:=aa;exact cF x) underlying63 rfl ξ ?_;intro K H;go_simp;refine H _ ?_;clear H K dT aM bD cF
 refine Qs1 ?_
 (refine Ql ?_;intro K H)
 refine⟨qi (((qg.refl _ W7).drewN 1).alc _),H _ _ ?_⟩;clear H K;have cq: ∀g,(δ N s.pks.length J).ownBlock=some g->ad g= .pks:=aN.o;have dE:=(((U.o.all .pks).1.on (qa.drewN W7 1)).on (qa.alloc _ (.cells (Γi G o2 n p os am an ke af ae) 65))).other (D':=λb=>(ad b≠ .data/\ad b≠ .pks)/\b<W7.heap.size) (λb d=>Or.inl d.1);have bB:=(cK.o.keep (qa.drewN W7 1)).keep (qa.alloc _ (.cells (Γi G o2 n p os am an ke af ae) 65));have dD:jp RAc (λb=>((ad b≠ .data/\ad b≠ .pks)/\b<W7.heap.size)∨(δ N s.pks.length J).ownBlock=some b) ((W7.drewN 1).alloc (.cells (Γi G o2 n p os am an ke af ae) 65)) (Γi G o2 n p os am an ke af ae) ⟨(G,o2),n,p⟩:=λw' a=>by
  have cm: ∀g,g∈Fn-> ¬(((ad g≠ .data/\ad g≠ .pks)/\g<W7.heap.size)∨(δ N s.pks.length J).ownBlock=some g):=λg ai aa=>by
   have e:=bp.o g ai;rcases aa with aa | aa
   ·exact aa.1.1 e
   ·rw[cq g aa] at e;cases e
  exact⟨_,_,_,rfl,bB.s.off2 (λI b d=>cm b (ar.o.1 I b d)) a,bB.e.off2 (λI b d=>cm b (ar.o.2.1 I b d)) a,bB.l.off2 (λI b d=>cm b (ar.o.2.2 I b d)) a⟩
 refine jJ rfl rfl ?_;intro K H
 refine zK (.tmp 66) (.tmp 71) 92 rfl 0 65 eZ (θ #[ι 0,ι 0,ι 0,false,υ 0,φ 0,ω 0,ω 0,(),false,φ 0,(),()]) 13 120 underlying92 hi eW eX eY rfl ζ _ s.pks rfl dE W7.heap.size (Γi G o2 n p os am an ke af ae) ⟨(G,o2),n,p⟩ rfl rfl (ud rfl) (by simp[Value.oneCell']) dD (λb d=>by
  have:=d.2;have:=(((qa.drewN W7 1)).al (.cells (Γi G o2 n p os am an ke af ae) 65)).size
  omega) ζ τ (Nat.zero_le _) ?_
 intro fJ w6 cl dj dc;have aC:Hid (qg (λb=>(δ N s.pks.length J).ownBlock=some b) W7 w6):=κ ((((qg.refl _ W7).drewN 1).alc _).trans (qg.of_grown dj));obtain⟨bb,ba,aS,rfl,eR,eS⟩:=cl.shape;have bk:=κ (aC.o.blk U.o.blk aJ);have eI:=U.o.lt;have cy:(ad k.R≠ .data/\ad k.R≠ .pks)/\k.R<W7.heap.size:=⟨by rw[(U.o.all .room).1];exact⟨η,η⟩,eI⟩;have bm:=κ (U.o.pksPut (y:=⟨(G,o2),n,p⟩) ((aC.o.mono (S':=λb=>(δ N s.pks.length J).ownBlock=some b∨b=k.R) (λb d=>Or.inl d)).set (p:=⟨k.R,14,none⟩) (Or.inr rfl) (δ bb ba aS)) (((qa.drewN W7 1)).al (.cells (Γi G o2 n p os am an ke af ae) 65)).size (cl.step (qg.set (S:=λb=>(ad b≠ .data/\ad b≠ .pks)/\b<W7.heap.size) (qg.refl _ _) (p:=⟨k.R,14,none⟩) cy (δ bb ba aS))) dc (qA (qo bk.o 14 _) rfl));have bX:w6.cell? ⟨k.R,14,none⟩=some (δ N s.pks.length J):=qb bk.o 14 rfl;have eB:w6.frozen? ⟨k.R,14,none⟩=false:=qd bk.o 14;clear cl dj dc dE dD bB eR eS;refine⟨qi aC.o,H _ _ ?_⟩;clear H K;go_simp
 (refine Ql ?_;intro K H)
 refine⟨qi aC.o,H _ _ ?_⟩;clear H K
 iterate 1 (refine qD rfl rfl (qi aC.o) ?_;intro K H;go_big_quiet_op;go_big_quiet_on)
 (refine Qe ?_;intro K H)
 refine H _ _ ?_;clear H K;refine qv ?_
 have cH:Hid (SlI .u8 (w6.setCell ⟨k.R,14,none⟩ (δ bb ba aS)) (δ af p.pl.length ae) p.pl):=κ (cK.o.l.off2 (D:=λb=>(δ N s.pks.length J).ownBlock=some b∨b=k.R) (λI b d aa=>by
  have e:=bp.o b (ar.o.2.2 I b d);rcases aa with aa | aa
  ·rw[cq b aa] at e;cases e
  ·rw[aa,(U.o.all .room).1] at e;cases e) ((aC.o.mono (S':=λb=>(δ N s.pks.length J).ownBlock=some b∨b=k.R) (λb d=>Or.inl d)).set (p:=⟨k.R,14,none⟩) (Or.inr rfl) (δ bb ba aS)))
 have cU:Hid (p.pl≠[]-> ∀b,(δ af p.pl.length ae).ownBlock=some b->b≠k.b/\b≠k.R):=κ (λI b d=>by
  have e:=bp.o b (ar.o.2.2 I b d);refine⟨λx=> ?_,λx=> ?_⟩
  ·rw[x,(U.o.all .book).2.1] at e;cases e
  ·rw[x,(U.o.all .room).1] at e;cases e)
 obtain⟨cX,cf⟩:=ν (w6.setCell ⟨k.R,14,none⟩ (δ bb ba aS));rw[cf] at cH bm
 have bU:Hid (qt ([w.heap.size,w4.heap.size]++F) W1 cX):=κ ((aj.o.sub (λb d=>by
  rw[<-au.o];rcases List.mem_append.1 d with e | e
  ·exact List.mem_append_left _ e
  ·exact List.mem_append_right _ (List.mem_append_right _ e))).trans bm.o.2)
 have cA:=κ bm.o.1;obtain⟨fP,fT,bC⟩:=cA.o.blk;have ex:=β20 bC;have eC:=qd bC 20;obtain⟨fy,fz⟩:=eN;clear bC bX eB aJ dy dz cq bp aN U aC bk bm cy;have aq:=κ (cA.o.cell 20 (ι (s.cnt.acc+1)) (s':={s with strs:=qw s.strs (G,o2) t2,pks:=s.pks++[⟨(G,o2),n,p⟩],cnt:={s.cnt with acc:=s.cnt.acc+1}}) (λ_ _=>rfl) ⟨rfl,rfl,rfl,rfl,rfl,rfl,rfl,rfl,rfl⟩);have cI:=κ (cH.o.off2 (λI b d=>(cU.o I b d).2) (qg.set (S:=λb=>b=k.R) (qg.refl _ _) (p:=⟨k.R,20,none⟩) rfl (ι (s.cnt.acc+1))))
 go_upto_region 10 with fail
 (try rw[cf])
 clear cf
 go_upto_region 11 with fail
 obtain⟨aF,cg⟩:=ν (cX.setCell ⟨k.R,20,none⟩ (ι (s.cnt.acc+1)));rw[cg] at aq cI
 (try rw[cg])
 clear cg ex eC;obtain⟨id,ci⟩: ∃id:Int,(s.pks.length:Int)=id:=⟨_,rfl⟩;have cG:=κ ci
 (try rw[ci])
 clear ci;obtain⟨ao,cb⟩:=ν ([w.heap.size,w4.heap.size]++F);have aD:=κ cb;rw[cb] at aq bU;obtain⟨s3,aX⟩: ∃s3:RmS,{s with strs:=qw s.strs (G,o2) t2,pks:=s.pks++[⟨(G,o2),n,p⟩],cnt:={s.cnt with acc:=s.cnt.acc+1}}=s3:=⟨_,rfl⟩;have em:=κ aX;rw[aX] at aq;have dZ:=κ aq.o.1;have bV:=κ (bU.o.trans aq.o.2);have cO:Hid (xZ s3):=κ (by rw[<-aX];exact⟨bL.o.keys,bL.o.lane,bL.o.few⟩);have bN:Hid (s3.tab=s.tab/\s3.book=s.book/\s3.clock=s.clock/\qh s3.strs (G,o2)=some t2):=κ (by rw[<-aX];exact⟨rfl,rfl,rfl,xC _ _ _⟩);clear aX cb aq bU;obtain⟨fs,fN,fR,dG⟩:=dZ.o;have bq:=κ dG;have dN:=κ (bV.o.blk (by rw[<-aD.o];simp) bj.o);have dP:=κ (bV.o.blk (by rw[<-aD.o];simp) aK.o);have dR:=λ(x:qp aF)=>β11 (qc x.h bq.o.blk)
 have aM:=λ(x:qp aF)=>β0 (qc x.h dN.o)
 obtain⟨L,cc⟩:=ν (prR (j5 G) s3.tab.u);have ei:=κ cc;have cQ:=κ (λw m=>Ii (bq.o.tab.more (w':=w) m) G cO.o.keys cO.o.few);rw[cc] at cQ;clear cc dG;refine Qn aF 8 8 [6] ?_
 refine Qq6 ?_
 (refine Ql ?_;intro K H)
 go_call cQ.o _ (qa.drewN aF 1) as e bh ⟨⟨v3,rfl,dF,dx⟩,ay⟩;obtain⟨fH,fD,ap,rfl,fF,dH,dr⟩:=(bq.o.on (qa.drewN aF 1)).ints ay dF dx;have aQ:Hid (qa aF bh):=κ ((qa.drewN aF 1).trans ay);have cN:=κ dr;have dX:=κ dH.at;have er:=κ (bV.o.trans (bq.o.at.stay aQ.o));have ej:=κ (cI.o.keep aQ.o);clear ay dF dx dH dr;refine⟨_,rfl,qj aQ.o,H _ _ ?_⟩;clear H K
 iterate 1 (refine qD rfl rfl (qj aQ.o) ?_;intro K H;go_big_quiet_op;go_big_quiet_on)
 refine qv ?_;clear dR aM;go_wp2
 go_loopw [93] (λaG wr=> ∃j:Nat,j<=L.length/\aG= ι j/\qF w0 wr k {s3 with book:=Jq s3.book (L.take j) id} (ap++ao)/\qt (ap++ao) bh wr/\qg (λb=>b=k.b) bh wr) (λaG _=>L.length-(intOf aG).toNat)
 case atStart=>exact⟨0,τ,rfl,dX.o,qt.refl _ _,qg.refl _ _⟩
 case round=>
  obtain⟨j,eP,rfl,aW,ak,da⟩:=hrel;have ah:=κ aW;have av:=κ ak;have cB:=κ da;clear aW ak da;by_cases hlt:j<L.length
  ·have cj:(j:Int)<(L.length:Int):=by omega
   obtain⟨ev,fa,rfl,eM⟩:=cN.o wr (λb d=>av.o.2 b (by simp[d])) j hlt;have bO:Hid (L.take (j+1)=L.take j++[L[j]]):=κ (by rw[List.take_add_one,List.getElem?_eq_getElem hlt];rfl);generalize L[j]=x at *;obtain⟨fj,fm,aL⟩:=ah.o.blk;have ew:=β0 aL;clear aL
   go_wp2_with (go_at_call 193;(go_call Ot ah.o x id as e cw ⟨⟨fK,rfl⟩,aU,bc,bs⟩;have Y:=κ aU;have aj:=κ bc;have dL:=κ bs;clear aU bc bs))
   go_roundw
   case rel=>exact⟨j+1,τ,by go_num,by have:=Y.o;unfold Jq at this ⊢;rw[bO.o,List.foldl_append];exact this,av.o.trans aj.o,cB.o.trans dL.o⟩
   case measure=>simp[intOf];omega
  ·obtain rfl:j=L.length:=by omega
   have cj: ¬(L.length:Int)<(L.length:Int):=by omega
   rw[List.take_length] at ah;have dQ:=κ (β9 (av.o.blk (b:=w4.heap.size) (by simp[<-aD.o]) (qc aQ.o dP.o)));have ff:=dQ.o;have ek:=κ (ej.o.off2 (λI b d=>(cU.o I b d).1) cB.o);obtain⟨cY,ch⟩:=ν (zJ p.pl);have cC:=κ (Jo _ p.pl wr ek.o cJ.o.1 cJ.o.2);rw[ch] at cC;have eb:=κ ch;clear ch
   go_upto_if 109 with (go_at_call 134;(go_call cC.o as e cw ⟨rfl,dw⟩;have cT:=κ dw;clear dw))
   have Y:=κ (ah.o.on cT.o);have es:=κ (av.o.trans (ah.o.stay cT.o));obtain⟨O,bw⟩: ∃O:RmS,{s3 with book:=Jq s3.book L id}=O:=⟨_,rfl⟩;have en:=κ bw;rw[bw] at Y;have bo:Hid (qh O.strs (G,o2)=some t2/\O.clock=s.clock):=κ (by rw[<-bw];exact⟨bN.o.2.2.2,bN.o.2.2.1⟩);obtain⟨aR,db⟩:=ν ((if cY then false else t2.askedOf));have bF:=κ db;obtain⟨aj,fi,fl,aB⟩:=Y.o;obtain⟨fd,fr,fM,bv,aZ⟩:=aB.strAt bo.o.1;obtain rfl:ab=fd:=by rw[aH.o] at bv;injection bv
   have fb:=β7 aZ.blk;have eD:=qd aZ.blk 7;have ea:=κ (aB.strSet (t':={t2 with askedOf:=false}) bo.o.1 bv aZ (qg.set (S:=λb=>b=ab) (qg.refl _ _) (p:=⟨ab,7,none⟩) rfl (μ false)) (qA (qo aZ.blk 7 _) rfl) rfl);clear bw db aB bv aZ ff
   go_cut [] from 110 (λag=>qF w0 ag k {O with strs:=qw O.strs (G,o2) {t2 with askedOf:=aR}} (ap++ao)/\qt (ap++ao) cw ag)
   case first=>
    cases cY with
    | false=>
     have bH:Hid ({O with strs:=qw O.strs (G,o2) {t2 with askedOf:=aR}}=O):=κ (by rw[<-bF.o];show {O with strs:=qw O.strs (G,o2) t2}=O;rw[ZU _ _ _ bo.o.1]);go_wp2;go_meet;exact⟨by rw[bH.o];exact Y.o,qt.refl _ _⟩
    | true=>
     obtain rfl:false=aR:=bF.o;go_wp2;go_meet;exact ea.o
   case rest=>
   obtain⟨bZ,bd⟩:=hcut;have et:=κ (es.o.trans bd);obtain⟨ft,fO,fS,bi⟩:=bZ;have bP:=κ bi;obtain⟨fe,ax,aA,cn,bz⟩:=bi.strAt (o:=(G,o2)) (xC _ _ _);obtain rfl:ab=fe:=by rw[aH.o] at cn;injection cn
   have aE:=κ bz;have dA:k.R≠ax:=λe=>by have:=bz.nb;rw[<-e,(bi.all .room).1] at this;cases this
   have dB: ¬aA.ownBlock=some k.R:=λe=>by have:=(bz.nv _ e).1;rw[(bi.all .room).1] at this;cases this
   have aJ: ¬(k.R=ax∨aA.ownBlock=some k.R):=λe=>e.elim dA dB
   have dC: ¬(ab=ax∨aA.ownBlock=some ab):=λe=>e.elim (λe=>aE.o.ne e) (λe=>(aE.o.nv _ e).2 rfl)
   have ed:Hid (O.clock=s.clock):=κ bo.o.2;have dU: ∀x:qu (λb=>b=ax∨aA.ownBlock=some b) wc,x.w'.cell? ⟨k.R,9,none⟩=some (ι s.clock):=λx=>by rw[<-ed.o];exact qb (x.h.blk bP.o.blk aJ) 9 rfl
   have dW:=λ(x:qu (λb=>b=ax∨aA.ownBlock=some b) wc)=>β0 (x.h.blk aE.o.blk dC)
   clear bd bi cn bz fb eD dA dB;obtain⟨ac,dh⟩:=ν ((jF t2.buf n s.clock id).2);have cD:=κ dh;clear dh
   go_upto_region 20 with fail
   refine QN (λb=>b=ax∨aA.ownBlock=some b) wc 11 11 [10] ?_
   refine ED ?_
   (refine Ql ?_;intro K H)
   have cL:=κ (En t2.buf aE.o.ok ax aA n s.clock id bK.o _ (aE.o.buf.on (qa.drewN wc 1)));rw[cD.o] at cL
   (with_reducible refine cL.o.mono ?_)
   rintro e cv ⟨rfl,fI,st⟩;have dK:Hid (qg (λb=>b=ax∨aA.ownBlock=some b) wc cv):=κ (((qg.refl _ wc).drewN 1).trans st.away);have bE:=κ ((bP.o.on (qa.drewN wc 1)).strBuf (xC _ _ _) aH.o (aE.o.on (qa.drewN wc 1)) st (Fk aE.o.ok bK.o ec.o));simp only[QI] at bE;have cV:=κ (et.o.trans ((bP.o.at.stay (qa.drewN wc 1)).trans bE.o.2));clear st;refine⟨_,rfl,qi dK.o,H _ _ ?_⟩;clear H K dU dW aJ dC;refine qv ?_;obtain⟨az,co⟩: ∃az:RmS,{O with strs:=qw O.strs (G,o2) {t2 with buf:=(jF t2.buf n s.clock id).1,askedOf:=aR}}=az:=⟨_,rfl⟩
   have cE:Hid (∀bW,(if vf ac=0 then az.book else xF az.book L id (vf ac))=bW->s.accept (G,o2) p={az with book:=bW}):=κ (by
    intro bW eL;have eU:Yo t p s.clock s.pks.length={t2 with buf:=(jF t2.buf n s.clock id).1,askedOf:=aR}:=by
     unfold Yo;rw[bn.o,<-bF.o,<-cR.o,<-eb.o,<-cG.o,<-bJ.o,<-bG.o,<-aI.o];cases t.any<;>simp
    have d:t2.buf=t.buf:=by rw[<-cR.o]
    have eH:prR (j5 G) s.tab.u=L:=by rw[<-ei.o,bN.o.1]
    rw[<-eL,<-co,<-en.o,<-em.o];unfold RmS.accept;rw[bM.o];simp only[QI]
    rw[eU,bn.o,eH,cG.o,<-d,cD.o])
   have cP:Hid (∀w',qt (ap++ao) bh w'->qt F w w'):=κ (λw' h=>(eq.o.sub (F':=F) (λb d=>List.mem_append_right _ d)).trans (((er.o.sub (F':=F) (λb d=>by rw[<-aD.o];exact List.mem_append_right _ d))).trans (h.sub (λb d=>by rw[<-aD.o];simp[d]))));have cz:Hid (qF w0 cv k az (ap++ao)):=κ (by rw[<-co];exact bE.o.1);clear co
   go_upto_block 2 with fail
   go_cut [12] from 124 to 129 (λv ag=>v= ι (vf ac)/\vf ac≠0/\ag=cv)
   case first=>
    by_cases e10:ac=10
    ·subst e10;go_wp2;go_meet;exact⟨rfl,ζ,rfl⟩
    ·by_cases e9:ac=9
     ·subst e9;go_wp2;go_meet;exact⟨rfl,ζ,rfl⟩
     ·by_cases e8:ac=8
      ·subst e8;go_wp2;go_meet;exact⟨rfl,ζ,rfl⟩
      ·have fA:(ac==10)=false:=by simp[e10]
       have fC:(ac==9)=false:=by simp[e9]
       have fB:(ac==8)=false:=by simp[e8]
       have bI:Hid (vf ac=0):=κ (by unfold vf;rw[if_neg e10,if_neg e9,if_neg e8]);clear e10 e9 e8;go_wp2
       (refine bodyPost_ret (v:= .tuple #[]) ?re2 rfl ?_;(case re2=>simp[results,results132,go_sem]))
       exact⟨rfl,by rw[cE.o _ rfl,if_pos bI.o];exact(cz.o.sub (λb d=>List.mem_append_right _ d)).sub (λb d=>by rw[<-aD.o];exact List.mem_append_right _ d),cP.o _ cV.o⟩
   case rest=>
   obtain⟨rfl,di,rfl⟩:=hcut;have bI:=κ di;clear di;generalize vf ac=fv at *;go_wp2
   go_loopw [132] (λaG wr=> ∃j:Nat,j<=L.length/\aG= ι j/\qF w0 wr k {az with book:=xF az.book (L.take j) id fv} (ap++ao)/\qt (ap++ao) bh wr) (λaG _=>L.length-(intOf aG).toNat)
   case atStart=>exact⟨0,τ,rfl,cz.o,cV.o⟩
   case round=>
    obtain⟨j,eP,rfl,aW,ak⟩:=hrel;have ah:=κ aW;have av:=κ ak;clear aW ak;by_cases hlt:j<L.length
    ·have cj:(j:Int)<(L.length:Int):=by omega
     obtain⟨ev,fa,rfl,eM⟩:=cN.o wr (λb d=>av.o.2 b (by simp[d])) j hlt;have bO:Hid (L.take (j+1)=L.take j++[L[j]]):=κ (by rw[List.take_add_one,List.getElem?_eq_getElem hlt];rfl);generalize L[j]=x at *;obtain⟨fj,fm,aL⟩:=ah.o.blk;have ew:=β0 aL;clear aL
     go_wp2_with (go_at_call 122;(go_call Xv ah.o x id fv as e cw ⟨rfl,aU,bc,bs⟩;have Y:=κ aU;have aj:=κ bc;clear aU bc bs))
     go_roundw
     case rel=>exact⟨j+1,τ,by go_num,by have:=Y.o;unfold xF at this ⊢;rw[bO.o,List.foldl_append];exact this,av.o.trans aj.o⟩
     case measure=>simp[intOf];omega
    ·obtain rfl:j=L.length:=by omega
     have cj: ¬(L.length:Int)<(L.length:Int):=by omega
     rw[List.take_length] at ah;go_wp2
     (refine bodyPost_end (v:= .tuple #[]) ?re1 rfl ?_;(case re1=>simp[results,results132,go_sem]))
     exact⟨rfl,by rw[cE.o _ rfl,if_neg bI.o];exact(ah.o.sub (λb d=>List.mem_append_right _ d)).sub (λb d=>by rw[<-aD.o];exact List.mem_append_right _ d),cP.o _ av.o⟩
end
def SmS (s:RdS):Prop:=Byt s.1/\s.1.length<=200
theorem SmS.tk {s:RdS} (h:SmS s) (n:Int):SmS (tkS s n):=⟨h.1.drop _,Nat.le_trans (uP s n) h.2⟩
theorem SmS.wr {s:RdS} (h:SmS s) (x:Int):SmS (wrS s x):=⟨by unfold wrS;split;exact h.1;exact xf,Nat.le_trans (vL s x) h.2⟩
theorem SmS.ss: ∀(n:Nat) {s:RdS},SmS s->SmS (j6 n s).2
 | 0,_,h=>h
 | n+1,_,h=>(SmS.ss n h).tk 4
theorem Kq {b:List Int} (N:Byt b) (O: ¬(200:Int)<b.length):U16 (xk b).1.sq/\Byt (xk b).1.pl/\(xk b).1.pl.length<=200:=by
 have G:SmS (b,0):=⟨N,by show b.length<=200;omega⟩;have I:SmS (s5H b):=((((G.tk 1).tk 1).tk 2).tk 4).tk 4;have J:SmS (yz (fH b) (s5H b)):=by
  unfold yz;split
  ·exact I.wr 2
  ·exact I
 have d:SmS (yo (fH b) (yz (fH b) (s5H b))).2:=by
  unfold yo;split
  ·exact(((SmS.ss _ J).tk 2).tk 2).tk _
  ·exact SmS.ss _ J
 unfold xk;rw[if_neg O];unfold Zh;split
 ·refine⟨?_, ?_⟩
  ·have H:=JR (s:=s2H b) ((G.tk 1).tk 1).1 2 ζ;exact⟨H.1,by have:=H.2;show num (tkB (s2H b).1 ((2:Nat):Int))<=65535;omega⟩
  ·show Byt (vE _ _).1/\(vE _ _).1.length<=200;unfold vE;split
   ·exact⟨xf,η⟩
   ·split
    ·split
     ·unfold xN;split
      ·exact⟨xf,η⟩
      ·split
       ·exact⟨xf,η⟩
       ·exact⟨d.1.take _,by simp only[List.length_take];have:=d.2;omega⟩
     ·exact⟨xf,η⟩
    ·exact d
 ·exact⟨⟨Int.le_refl 0,by show (0:Int)<=65535;omega⟩,xf,Nat.zero_le _⟩
theorem Lt (b:List Int):DV b=DX b:=by
 unfold DV DX;rw[Bool.and_assoc]
section
variable {T:Nat->Tg} {w0 w w':World} {k:RmK} {vp vr:Value} {s:RmS} {F:List Nat}
theorem Nt (h:RmX T w0 w k vp vr s F) {b:List Int} {q:List (List Int)} (ai:s.queue=b::q):
  Calls prog 128 #[γ k.RQ] w λe w'=> ∃d G,e= .returned (.tuple #[δ d b.length G,true])/\SlI .u8 w' (δ d b.length G) b/\qF w0 w' k {s with queue:=q} F/\qt F w w':=by
 obtain⟨f,Q,aa,ad,U,Y,css,g,a⟩:=h.que;obtain⟨t1,t2,_⟩:=h.all .queue;rw[ai] at a
 match Q,a with
 | c::Q,a=>
  obtain⟨J,ab⟩:=a;have ac:=J;obtain⟨v,rfl,⟨d,G,rfl,_⟩,H⟩:=J.read;refine(NT w _ _ _ f d _ G Q aa ad U Y css g).mono ?_;rintro e w' ⟨rfl,⟨ae,g'⟩,O⟩;have N:qg (λb=>T b≠ .data) w w':=O.mono λb H=>by
   rcases H with rfl | rfl
   ·rw[t1];simp
   ·rw[t2];simp
  obtain⟨af,ag⟩:=h.ring (q:=q) O (λD ah=>⟨_,Q,aa,ae,U,Y,_,g',ab.mono λc y aj=>(aj.step N).other λb H=>(ah b H).elim Or.inl (λx=>Or.inl (by rw[h.fresh b x];simp))⟩);obtain⟨ak,I,s2,_⟩:=ac w' N;injection I with I
  subst I;exact⟨d,G,rfl,s2,af,ag⟩
structure Iy (s:RmS):Prop where
 subs:xZ s
 pub:ZD s
 malf:0<=s.cnt.malf/\s.cnt.malf<=1000000000
 told:0<=s.cnt.told/\s.cnt.told<=1000000000
 strange:0<=s.cnt.strange/\s.cnt.strange<=1000000000
 acc:0<=s.cnt.acc/\s.cnt.acc<=1000000000
 pks:s.pks.length<=1000000
 clock:xz s.clock
 strs: ∀o t,qh s.strs o=some t->(t.any=true->xz t.great)/\ ∀sq,U16 sq->xz (vP t sq)
 orgs: ∀x o,qh s.tab.o x=some o->(qh s.strs o).isSome=true
 queue: ∀b∈s.queue,Byt b/\b.length<=1000000
 ids: ∀o t,qh s.strs o=some t-> ∀h∈t.buf.holds,0<=h.2.2/\h.2.2<(s.pks.length:Int)
 pkok: ∀a∈s.pks,wP a.pk/\gu a.pk
 owes: ∀x id,qh s.book (x,id)=some 0->(qh s.lanes x).isSome=true
theorem Po {w:World} {v:Value} {b:List Int} (d:SlI .u8 w v b) (G:Byt b):Calls prog 16 #[v] w (yX (xk b) w):=by
 by_cases hl:(200:Int)<b.length
 ·exact KG v b w d hl
 ·exact Qj v b w d G hl
theorem IJ (h:qF w0 w k s F) (m:qa w w') {I G H:Value} {p:Pk} (N:PkS w' I G H p) (n: ∀b,(I.ownBlock=some b∨G.ownBlock=some b∨H.ownBlock=some b)->w.heap.size<=b):
  ∃Fn,qF w0 w' k s (Fn++F)/\Ai (· ∈Fn) I G H p/\ ∀g∈Fn,g∉F:=by
 obtain⟨T,vp,ad,x⟩:=h;have key: ∀{U:IntKind} {v:Value} {l:List Int},SlI U w' v l->v∈[I,G,H]->(∀b,v.ownBlock=some b->w.heap.size<=b)->l≠[]-> ∀g,v.ownBlock=some g->g∈([I,G,H].filterMap Value.ownBlock).filter (λb=>decide (w.heap.size<=b/\b<w'.heap.size)):=by
  intro U v l ac ab aa Y g J;rw[List.mem_filter];exact⟨List.mem_filterMap.2 ⟨v,ab,J⟩,decide_eq_true ⟨aa g J,ac.old Y J⟩⟩
 have O: ∀b∈([I,G,H].filterMap Value.ownBlock).filter (λb=>decide (w.heap.size<=b/\b<w'.heap.size)),w.heap.size<=b/\b<w'.heap.size:=λb d=>of_decide_eq_true (List.mem_filter.1 d).2
 exact⟨_,⟨T,vp,ad,x.adds m O⟩,⟨key N.s η (λb d=>n b (Or.inl d)),key N.e η (λb d=>n b (Or.inr (Or.inl d))),key N.l η (λb d=>n b (Or.inr (Or.inr d)))⟩,λg J hF=>by
  have ae:=(O g J).1;have af:=(x.law g hF).2.2
  omega⟩
theorem Ns (bZ:qF w0 w k s F) (aR:Iy s) {b:List Int} {q:List (List Int)} (ay:s.queue=b::q) (w1 w2:Int) (acc:Bool):
  Calls prog 79 #[γ k.R,θ #[ι w1,ι w2],acc] w λe w'=>e= .returned (.tuple #[])/\qF w0 w' k s.read F/\qt F w w':=by
 obtain⟨T,vp,ci,h⟩:=bZ;obtain⟨W1,aO⟩:=ν (w.alloc (.cells #[ι w1,ι w2] 37));have bi:Hid (qa w W1):=κ (by rw[<-aO];exact qa.alloc _ _);have bh:=κ (h.on bi.o);have ao:=κ (h.at.stay bi.o);have G:=κ aR;obtain⟨bu,bv⟩:=aR.queue b (by rw[ay];exact List.mem_cons_self);have ak:=κ (And.intro bu bv);obtain⟨sq,az⟩: ∃sq:RmS,{s with queue:=q}=sq:=⟨_,rfl⟩;have U:=κ az;have bg:=κ (Nt bh.o ay);rw[az] at bg;have cl:=β10 bh.o.blk;have af:Hid (s.read=if DX b then sq.tell b else sq.media b):=κ (by unfold RmS.read;rw[ay];simp only[az]);clear h aR ay bu bv az;obtain⟨c,aP⟩:=ν (DX b);have bO:Hid (DV b=c):=κ (by rw[Lt,aP]);rw[aP] at af;have aK:Hid (xZ sq/\ZD sq/\(0<=sq.cnt.malf/\sq.cnt.malf<=1000000000/\0<=sq.cnt.told/\sq.cnt.told<=1000000000)):=κ (by rw[<-U.o];exact⟨⟨G.o.subs.keys,G.o.subs.lane,G.o.subs.few⟩,G.o.pub,G.o.malf.1,G.o.malf.2,G.o.told.1,G.o.told.2⟩);clear aP;obtain⟨bq,aQ⟩:=ν ((xk b).2);obtain⟨p,aS⟩:=ν ((xk b).1);have aJ:=κ aQ;have bf:=κ aS;have aL:=κ (λw' v (sl:SlI .u8 w' v b)=>Po sl ak.o.1);unfold yX at aL;rw[aQ,aS] at aL;clear aQ aS
 go_enter func79,ntmps79
 go_upto_region 1 with fail
 (try rw[aO])
 clear aO
 go_upto_if 21 with (first | (go_at_call 128;(go_call bg.o as e bF ⟨ct,cu,rfl,s3,bt,t3⟩;have aM:=κ s3;have aj:=κ bt;have bn:=κ t3;clear s3 bt t3)) | (go_at_call 129;(go_call Es _ b bF aM.o as e w4 ⟨rfl,bY⟩;rw[bO.o];obtain rfl:=bY)))
 cases c with
 | true=>
  go_wp2_with (go_at_call 130;(go_call No aj.o aK.o.1 aK.o.2.1 b _ aM.o ak.o.1 ak.o.2 aK.o.2.2 as e w5 ⟨rfl,ar,t5⟩;have bM:=κ ar;have bW:=κ t5;clear ar t5))
  (refine bodyPost_ret (v:= .tuple #[]) ?re2 rfl ?_;(case re2=>simp[results,results79,go_sem]))
  exact⟨rfl,by rw[af.o];exact bM.o,ao.o.trans (bn.o.trans bW.o)⟩
 | false=>
  go_upto_if 31 with (go_at_call 16;(go_call aL.o _ _ aM.o as e w5 ⟨cB,cx,cy,rfl,ai,bz,bB⟩;obtain⟨os,aD,rfl,_⟩:=id ai.s;obtain⟨aE,ke,rfl,_⟩:=id ai.e;obtain⟨aF,aC,rfl,_⟩:=id ai.l;have bj:=κ bz;have bl:=κ ai;have bR:=κ bB;clear bz bB ai))
  obtain⟨W6,ad⟩:=ν (w5.alloc (.cells (Γh p os aD aE ke aF aC) 63));have bk:Hid (qa bF W6):=κ (by rw[<-ad];exact bj.o.al _);obtain⟨Fn,ar,cf,bX⟩:=IJ aj.o bj.o bl.o bR.o;have bQ:=κ (ar.on (by rw[<-ad];exact qa.alloc _ _:qa w5 W6));have bS:=κ cf;have bK:=κ bX;have bU:=κ (bl.o.keep (by rw[<-ad];exact qa.alloc _ _:qa w5 W6));have ba:Hid (W6.heap[w5.heap.size]? =some (.cells (Γh p os aD aE ke aF aC) 63 (0,0))):=κ (by rw[<-ad];exact qk _ _);have bo:=κ (bn.o.trans (aj.o.stay bk.o))
  (try rw[ad])
  clear ad;by_cases he:bq=0
  ·subst he;have am:Hid (sq.media b=match qh sq.tab.o p.sc with | none=>{sq with cnt:={sq.cnt with strange:=sq.cnt.strange+1}} | some o=>sq.accept o p):=κ (by unfold RmS.media;rw[aJ.o,if_pos rfl,bf.o];rfl)
   go_upto_region 7 with fail
   obtain⟨T,vp,ci,bH⟩:=bQ.o;have aq:=κ bH;have an:=κ (λw' (m:qa W6 w')=>LH (aq.o.tab.more m) p.sc);have bJ:=λ(x:qp W6)=>β11 (qc x.h aq.o.blk)
   have bT:=λ(x:qp W6)=>β4 (qc x.h ba.o)
   clear bH;obtain⟨ab,ah⟩:=ν (qh sq.tab.o p.sc);obtain⟨N,av⟩:=ν ((ab.getD (0,0)).1);obtain⟨o2,aw⟩:=ν ((ab.getD (0,0)).2);obtain⟨bC,ax⟩:=ν (ab.isSome);rw[ah,av,aw,ax] at an
   go_cut [10,11] from 41 to 51 (λcg ch bG=> ∃A,cg= γ A/\ch= μ bC/\bG.heap[A]? =some (.cells #[ι N,ι o2] 58 (0,0))/\qa W6 bG)
   case first=>
    refine zC W6 14 (.op 0 false (.op 1 false (.op 2 false (.op 3 false (.op 4 false (.op 5 false (.op 6 false (.br [7,11] λk=>if k=7 then .op 8 false (.op 9 false (.op 10 false (.op 11 true (.op 12 true (.op 13 false (.done)))))) else .op 7 true (.op 8 false (.op 9 false (.op 10 false (.op 12 true (.op 13 false (.done)))))))))))))) ξ ξ ?_
    repeat (first | (refine jd rfl rfl (qj ρ) ?_) | (refine qE rfl rfl (qj ρ) ?_;intro K d;go_big_quiet_op;go_big_quiet_on))
    refine wR ζ ?_ ?_
    ·(refine qP rfl rfl ?_;intro K d;unfold jl;go_simp)
     refine(an.o _ (qa.drewN W6 1)).mono ?_;rintro e w8 ⟨rfl,bA⟩;have J:Hid (qa W6 w8):=κ ((qa.drewN W6 1).trans bA);clear bA;refine⟨_,rfl,qj J.o,d _ _ ?_⟩;clear d K
     repeat (first | (refine jd rfl rfl (qj J.o) ?_) | (refine qE rfl rfl (qj J.o) ?_;intro K d;go_big_quiet_op;go_big_quiet_on))
     (refine qP rfl rfl ?_;intro K d;unfold jl;go_simp)
     refine⟨qj (J.o.al _),d _ _ ?_⟩;clear d K;obtain⟨w9,aB⟩:=ν (w8.alloc (.cells #[ι 0,ι 0] 58));obtain⟨A,Y⟩:=ν (w8.heap.size);have I:Hid (w9.heap[A]? =some (.cells #[ι 0,ι 0] 58 (0,0))):=κ (by rw[<-aB,<-Y];exact qk w8 _);have aa:Hid (qa W6 w9):=κ (by rw[<-aB];exact J.o.al _);have ae:Hid (W6.heap.size<=A):=κ (by rw[<-Y];exact J.o.size)
     (try rw[aB])
     (try rw[Y])
     clear aB Y;have z0:=β0 I.o;have aZ:=β1 I.o;have aX:=qd I.o 0;have aY:=qd I.o 1
     repeat (first | (refine jd rfl rfl (qj aa.o) ?_) | (refine qE rfl rfl (qj aa.o) ?_;intro K d;go_big_quiet_op;go_big_quiet_on))
     (refine qP rfl rfl ?_;intro K d;unfold jl;go_simp)
     have H:Hid (qa W6 ((w9.setCell ⟨A,0,none⟩ (ι N)).setCell ⟨A,1,none⟩ (ι o2))):=κ ((aa.o.st ae.o _).st ae.o _);have ac:=κ (qA (qo (qo I.o 0 (ι N)) 1 (ι o2)) (cs':= #[ι N,ι o2]) rfl);refine⟨qj H.o,d _ _ ?_⟩;clear d K z0 aZ aX aY
     repeat (first | (refine jd rfl rfl (qj H.o) ?_) | (refine qE rfl rfl (qj H.o) ?_;intro K d;go_big_quiet_op;go_big_quiet_on))
     refine ze ?_;go_wp2;go_meet;exact⟨A,rfl,rfl,ac.o,H.o⟩
    ·(refine qP rfl rfl ?_;intro K d;unfold jl;go_simp)
     refine⟨qj ((qa.drewN W6 1).al _),d _ _ ?_⟩;clear d K;obtain⟨w8,aA⟩:=ν ((W6.drewN 1).alloc (.cells #[ι 0,ι 0] 58));obtain⟨A,Y⟩:=ν (W6.heap.size);have bI:Hid (w8.heap[A]? =some (.cells #[ι 0,ι 0] 58 (0,0))):=κ (by rw[<-aA,<-Y];exact qk (W6.drewN 1) _);have J:Hid (qa W6 w8):=κ (by rw[<-aA];exact(qa.drewN W6 1).al _);have ae:Hid (W6.heap.size<=A):=κ (by rw[<-Y];exact(qa.drewN W6 1).size)
     (try rw[aA])
     (try rw[Y])
     clear aA Y
     repeat (first | (refine jd rfl rfl (qj J.o) ?_) | (refine qE rfl rfl (qj J.o) ?_;intro K d;go_big_quiet_op;go_big_quiet_on))
     (refine qP rfl rfl ?_;intro K d;unfold jl;go_simp)
     refine(an.o _ J.o).mono ?_;rintro e w9 ⟨rfl,aV⟩;have aa:=κ (J.o.trans aV);have I:=κ (qc aV bI.o);clear aV;refine⟨_,rfl,qj aa.o,d _ _ ?_⟩;clear d K;have z0:=β0 I.o;have aZ:=β1 I.o;have aX:=qd I.o 0;have aY:=qd I.o 1
     repeat (first | (refine jd rfl rfl (qj aa.o) ?_) | (refine qE rfl rfl (qj aa.o) ?_;intro K d;go_big_quiet_op;go_big_quiet_on))
     (refine qP rfl rfl ?_;intro K d;unfold jl;go_simp)
     have H:Hid (qa W6 ((w9.setCell ⟨A,0,none⟩ (ι N)).setCell ⟨A,1,none⟩ (ι o2))):=κ ((aa.o.st ae.o _).st ae.o _);have ac:=κ (qA (qo (qo I.o 0 (ι N)) 1 (ι o2)) (cs':= #[ι N,ι o2]) rfl);refine⟨qj H.o,d _ _ ?_⟩;clear d K z0 aZ aX aY
     repeat (first | (refine jd rfl rfl (qj H.o) ?_) | (refine qE rfl rfl (qj H.o) ?_;intro K d;go_big_quiet_op;go_big_quiet_on))
     refine ze ?_;go_wp2;go_meet;exact⟨A,rfl,rfl,ac.o,H.o⟩
   case rest=>
   obtain⟨A,rfl,rfl,bp,bx⟩:=hcut;have ac:=κ bp;have H:=κ bx;clear bp bx bJ bT an;have ap:=κ (aq.o.on H.o);have bm:=κ (bo.o.trans ((aq.o.sub (F':=F) (λb ag=>List.mem_append_right _ ag)).at.stay H.o));cases bC with
   | false=>
    have cc:ab=none:=by
     cases ab with
     | none=>rfl
     | some o=>cases ax
    have aI:Hid (sq.media b={sq with cnt:={sq.cnt with strange:=sq.cnt.strange+1}}):=κ (by rw[am.o,ah,cc]);have ce:0<=sq.cnt.strange/\sq.cnt.strange<=1000000000:=by rw[<-U.o];exact G.o.strange
    obtain⟨cv,cw⟩:=ce;have cn:=β18 ap.o.blk;have cp:=qd ap.o.blk 18;have bb:=κ (ap.o.at.cell 18 (ι (sq.cnt.strange+1)) (s':={sq with cnt:={sq.cnt with strange:=sq.cnt.strange+1}}) (λ_ _=>rfl) ⟨rfl,rfl,rfl,rfl,rfl,rfl,rfl,rfl,rfl⟩);go_wp2
    (refine bodyPost_ret (v:= .tuple #[]) ?re3 rfl ?_;(case re3=>simp[results,results79,go_sem]))
    exact⟨rfl,by rw[af.o,if_neg ζ,aI.o];exact bb.o.1.sub (λb ag=>List.mem_append_right _ ag),ao.o.trans (bm.o.trans (bb.o.2.sub (λb ag=>List.mem_append_right _ ag)))⟩
   | true=>
    obtain⟨o,au⟩: ∃o,ab=some o:=by
     cases ab with
     | none=>cases ax
     | some o=>exact⟨o,rfl⟩
    have aN:o=(N,o2):=by rw[au] at av aw;rw[<-av,<-aw];rfl
    have aI:Hid (sq.media b=sq.accept (N,o2) p):=κ (by rw[am.o,ah,au,aN]);have bw:(qh sq.strs (N,o2)).isSome=true:=by
     have O:=ah;rw[au,aN] at O;rw[<-U.o] at O ⊢;exact G.o.orgs _ _ O
    obtain⟨t,aT⟩:=Option.isSome_iff_exists.1 bw
    obtain⟨aG,aW,bD⟩:=Kq ak.o.1 (by
     intro ca;have O:=aJ.o;unfold xk at O;rw[if_pos ca] at O
     cases O)
    rw[bf.o] at aG aW bD;have aU:(t.any=true->xz t.great)/\ ∀sq,U16 sq->xz (vP t sq):=by
     have O:=aT;rw[<-U.o] at O;exact G.o.strs _ _ O
    have be:=κ (λ(cd:xZ sq) (hck:xz sq.clock) (jg:sq.pks.length<=1000000) (hcnt:0<=sq.cnt.acc/\sq.cnt.acc<=1000000000)=>Hf ap.o.at cd N o2 aT p _ _ _ (bU.o.keep H.o) bS.o bK.o aG (aU.2 _ aG) aU.1 hck jg hcnt aW τ);have bN:=κ (be.o (by rw[<-U.o];exact⟨G.o.subs.keys,G.o.subs.lane,G.o.subs.few⟩) (by rw[<-U.o];exact G.o.clock) (by rw[<-U.o];exact G.o.pks) (by rw[<-U.o];exact G.o.acc));have a0:=β0 ac.o;have cj:=β1 ac.o;have bP:Hid (wc.rangeAt w5.heap.size 0 (Γh p os aD aE ke aF aC)):=κ (xw (qc H.o ba.o));clear be aU aG aW bD bw aT au aN ah av aw ax
    go_wp2_with (first | (refine wpList_load_mid rfl 63 (.tmp 8) rfl w5.heap.size 0 rfl (Γh p os aD aE ke aF aC) _ bP.o underlying63 rfl ξ ?_) | (go_at_call 132;(go_call bN.o as e cC ⟨rfl,bs,bE⟩;have bL:=κ bs;have bV:=κ bE;clear bs bE)))
    (refine bodyPost_end (v:= .tuple #[]) ?re1 rfl ?_;(case re1=>simp[results,results79,go_sem]))
    exact⟨rfl,by rw[af.o,if_neg ζ,aI.o];exact bL.o,ao.o.trans (bm.o.trans bV.o)⟩
  ·have ck:(bq != 0)=true:=by simp[he]
   have am:Hid (sq.media b={sq with cnt:={sq.cnt with malf:=sq.cnt.malf+1}}):=κ (by unfold RmS.media;rw[aJ.o,if_neg he]);clear he;have cb:0<=sq.cnt.malf/\sq.cnt.malf<=1000000000:=by rw[<-U.o];exact G.o.malf
   obtain⟨cq,cr⟩:=cb;have bc:=κ (aj.o.on bk.o);obtain⟨cz,cA,aH⟩:=bc.o.blk;have cm:=β17 aH;have co:=qd aH 17;clear aH;have bd:=κ (bc.o.cell 17 (ι (sq.cnt.malf+1)) (s':={sq with cnt:={sq.cnt with malf:=sq.cnt.malf+1}}) (λ_ _=>rfl) ⟨rfl,rfl,rfl,rfl,rfl,rfl,rfl,rfl,rfl⟩);go_wp2
   (refine bodyPost_ret (v:= .tuple #[]) ?re4 rfl ?_;(case re4=>simp[results,results79,go_sem]))
   exact⟨rfl,by rw[af.o,if_neg ζ,am.o];exact bd.o.1,ao.o.trans (bo.o.trans bd.o.2)⟩
end
def acC (a:AcS) (vs ve vl:Value):List Value:=[.int .i64 a.o.1,.int .i64 a.o.2,.int .i64 a.num,.bool a.pk.mr,.int .u8 a.pk.ty,.int .u16 a.pk.sq,.int .u32 a.pk.st,.int .u32 a.pk.sc,vs,.bool a.pk.has,.int .u16 a.pk.pr,ve,vl]
def RmP (cs:List Value) (a:AcS) (w0 w:World) (k:RmK) (s:RmS) (F:List Nat):Prop:= ∃T vp vr,RmX T w0 w k vp vr s F/\jp RAc (λb=>T b≠ .data/\T b≠ .pks) w cs a
section
variable {T:Nat->Tg} {w0 w w':World} {k:RmK} {vp vr:Value} {s:RmS} {F:List Nat} {cs:List Value} {a:AcS}
theorem RmP.at (h:RmP cs a w0 w k s F):qF w0 w k s F:=by
 obtain⟨T,vp,d,x,_⟩:=h;exact⟨T,vp,d,x⟩
theorem RmP.on (h:RmP cs a w0 w k s F) (m:qa w w'):RmP cs a w0 w' k s F:=by
 obtain⟨T,vp,G,x,d⟩:=h;exact⟨T,vp,G,x.on m,d.step (qg.of_more m)⟩
theorem RmP.adds {Fn:List Nat} (h:RmP cs a w0 w k s F) (m:qa w w') (G: ∀b∈Fn,w.heap.size<=b/\b<w'.heap.size):RmP cs a w0 w' k s (Fn++F):=by
 obtain⟨T,vp,H,x,d⟩:=h;exact⟨T,vp,H,x.adds m G,d.step (qg.of_more m)⟩
theorem RmP.pk {H d G:Value} (h:RmP (acC a H d G) a w0 w k s F):PkS w H d G a.pk:=by
 obtain⟨T,vp,O,x,I⟩:=h;obtain⟨J,N,v3,e,pk⟩:=I.read;unfold acC at e;simp only[List.cons.injEq,and_true,true_and] at e;obtain⟨rfl,rfl,rfl⟩:=e;exact pk
theorem RmX.growP (h:RmX T w0 w k vp vr s F) {t:Tg} (G:t≠ .data) (H:t≠ .pks) (J:qg (λb=>T b=t) w w') (I:jp RAc (λb=>T b≠ .data/\T b≠ .pks) w cs a):jp RAc (λb=>jU T t w w' b≠ .data/\jU T t w w' b≠ .pks) w' cs a:=
 (I.step (J.mono λb d=>by rw[d];exact⟨G,H⟩)).other λb d=>Or.inl ⟨λe=>d.1 ((jC h.fresh η (Ne.symm G) b).2 e),λe=>d.2 ((jC h.fresh η (Ne.symm H) b).2 e)⟩
theorem RmX.lanePutX (h:RmX T w0 w k vp vr s F) {x:Int} {l l':LnS} {p:Nat} (U:qh s.lanes x=some l) (I:qh k.LA x=some p) (b:zw (xd (λb=>T b= .lane x) w w') w' p l') (a:qg (λb=>T b= .lane x) w w'):
  RmX (jU T (.lane x) w w') w0 w' k vp vr {s with lanes:=qw s.lanes x l'} F/\qt F w w':=by
 have J:=h.fresh;exact h.own (t:= .lane x) (k':=k) (vp':=vp) (vr':=vr) (s':={s with lanes:=qw s.lanes x l'}) ⟨η,η⟩ a
  ⟨λab aa G d=>by
   rw[I] at G;rw[xC] at d;injection G with G
   injection d with d
   subst G d;rw[wY J η]
   exact b,by rw[I,xC];rfl⟩
  (λu N Y y=>by
   cases u<;>first | exact y | skip
   rename_i O;have H:O≠x:=λe=>N (by rw[e])
   exact⟨λp l G d=>y.1 p l G (by rw[vI _ _ H] at d;exact d),by rw[vI _ _ H];exact y.2⟩)
theorem RmX.bookX (h:RmX T w0 w k vp vr s F) {m:Bk} (b:ju w' k.B k.b m) (a:qg (λx=>x=k.b) w w'):RmX (jU T .book w w') w0 w' k vp vr {s with book:=m} F/\qt F w w':=by
 obtain⟨H,d,_⟩:=h.all .book;have G:=h.fresh;exact h.own (t:= .book) (k':=k) (vp':=vp) (vr':=vr) (s':={s with book:=m}) ⟨η,η⟩ (a.mono λb I=>by rw[I];exact d) ⟨(qZ G η _).2 (Or.inl H),(qZ G η _).2 (Or.inl d),b⟩ (λu J N x=>by cases u<;>first | exact x | exact absurd rfl J)
theorem Ek (h:RmP cs a w0 w k s F) (sub id f:Int):
  Calls prog 122 #[θ #[γ k.B],ι sub,ι id,ι f] w λe w'=>e= .returned (.tuple #[])/\RmP cs a w0 w' k {s with book:=jn s.book sub id f} F/\qt F w w':=by
 obtain⟨T,vp,O,x,G⟩:=h;have J:=(x.all .book).2.1;refine(gO x.bok sub id f).mono ?_;rintro e w' ⟨rfl,b,d⟩;obtain⟨H,I⟩:=x.bookX b d;exact⟨rfl,⟨_,_,_,H,x.growP η η (d.mono λb N=>by rw[N];exact J) G⟩,I⟩
theorem Nu (h:RmP cs a w0 w k s F) (x:ItS) (os J N:Option Addr) (I ke H:Nat) (ag:PkS w (δ os x.pk.ss.length I) (δ J x.pk.ex.length ke) (δ N x.pk.pl.length H) x.pk) (af:wP x.pk) (ah:gu x.pk)
  {sub:Int} {l:LnS} {pl:Nat} (O:qh s.lanes sub=some l) (Y:qh k.LA sub=some pl):
  Calls prog 136 #[γ pl,(Γj x os I J ke N H)] w λe w'=>e= .returned (.tuple #[ι (jL l x).2.1,μ (jL l x).2.2.1,ι (jL l x).2.2.2])/\
   RmP cs a w0 w' k {s with lanes:=qw s.lanes sub (jL l x).1} F/\qt F w w'/\qg (λb=>b≠k.R/\b≠k.ML/\b∉F) w w':=by
 obtain⟨T,vp,ak,y,aa⟩:=h;have ab:=(y.all .room).1;have ac:=(y.all .lns).1;have ad:=y.law;obtain⟨p2,U,ae⟩:=y.laneAt O;obtain rfl:p2=pl:=by rw[Y] at U;injection U with e;exact e.symm
 refine(IG ae x os J N I ke H ag af ah).mono ?_;rintro e w' ⟨rfl,b,G⟩;obtain⟨ai,aj⟩:=y.lanePutX O Y b G;exact⟨rfl,⟨_,_,_,ai,y.growP η η G aa⟩,aj,G.mono λb d=>⟨λe=>by rw[e,ab] at d;(cases d),λe=>by rw[e,ac] at d;(cases d),λe=>by rw[(ad b e).1] at d;(cases d)⟩⟩
theorem RmX.pkRow (h:RmX T w0 w k vp vr s F) {i:Nat} (hi:i<s.pks.length): ∃g cap os H I G ke d,vp= δ (some ⟨g,0,none⟩) s.pks.length cap/\T g= .pks/\g<w.heap.size/\(∀j v,(acC s.pks[i] (δ os s.pks[i].pk.ss.length G) (δ H s.pks[i].pk.ex.length ke) (δ I s.pks[i].pk.pl.length d))[j]? =some v->w.cell? ⟨g,i* 13+j,none⟩=some v)/\
  RmP (acC s.pks[i] (δ os s.pks[i].pk.ss.length G) (δ H s.pks[i].pk.ex.length ke) (δ I s.pks[i].pk.pl.length d)) s.pks[i] w0 w k s F:=by
 obtain⟨⟨⟨xs,Y,r⟩,_⟩,ac⟩:=h.all .pks;rcases id Y.2 with ⟨_,ad⟩ | ⟨g,cap,cur,rfl,af,N,ae,ag,_⟩
 ·omega
 ·have O:=r i hi;obtain⟨aj,ah,ai,e,pk⟩:=O.read;obtain⟨os,G,rfl,_⟩:=id pk.s;obtain⟨H,ke,rfl,_⟩:=id pk.e;obtain⟨I,d,rfl,_⟩:=id pk.l;refine⟨g,cap,os,H,I,G,ke,d,rfl,ac g rfl,lt_of_block N,λj v U=> ?_,T,_,vr,h, ?_⟩
  ·have ab:j<13:=by
    have:=(List.getElem?_eq_some_iff.1 U).1
    simpa [acC] using this
   rw[Y.cellAt _ τ];have J:=congrArg (λl:List Value=>l[j]?) e;simp only[List.getElem?_take,List.getElem?_drop] at J;rw[if_pos ab] at J;rw[J];exact U
  ·have aa:(xs.drop (i* 13)).take 13=acC s.pks[i] (δ os s.pks[i].pk.ss.length G) (δ H s.pks[i].pk.ex.length ke) (δ I s.pks[i].pk.pl.length d):=e;rw[<-aa];exact O.other λb N=>Or.inl (Or.inl N)
end
section
variable (s:LnS)
theorem Fi (x:ItS):(jL s x).1=s/\(jL s x).2.2.2≠0/\(jL s x).2.2.1=false∨s.gone=false/\s.wanted=true/\jM x.pk=true/\jc x.layer=true/\(jL s x).2.2.2=0/\(jL s x).1={s with A:=if s.A.length<s.room then s.A++[x] else s.A.tail++[x]}/\(jL s x).2.1=(if s.A.length<s.room then 0 else (s.A.head?.map (·.id)).getD 0)/\(jL s x).2.2.1=decide (¬s.A.length<s.room):=by
 unfold jL;split
 ·exact Or.inl ⟨rfl,η,rfl⟩
 ·rename_i d;have d:jc x.layer=true/\jM x.pk=true:=by simpa using d
  split
  ·exact Or.inl ⟨rfl,η,rfl⟩
  ·rename_i G;split
   ·exact Or.inl ⟨rfl,η,rfl⟩
   ·rename_i H;refine Or.inr ⟨by simpa using G,by simpa using H,d.2,d.1,rfl, ?_, ?_, ?_⟩
    all_goals (unfold yH;split<;>rename_i I<;>simp[I])
theorem zP:(zp s 1=false/\qN s=(s,0,0,false))∨(zp s 1=true/\ ∃x A,s.A=x::A/\s.B.length≠s.room/\qN s=({s with A:=A,cur:=(xK s.cur s.tgt x.layer x.key).1,B:=if (xK s.cur s.tgt x.layer x.key).2.1=0 then s.B++[(x,(xK s.cur s.tgt x.layer x.key).2.2)] else s.B},x.id,(xK s.cur s.tgt x.layer x.key).2.1,true)):=by
 cases hm:zp s 1 with
 | false=>exact Or.inl ⟨rfl,by unfold qN;rw[if_pos hm]⟩
 | true=>
  have d:(decide (0<s.A.length)&&decide (¬s.B.length=s.room))=true:=hm;rw[Bool.and_eq_true] at d;cases hA:s.A with
  | nil=>rw[hA] at d;simp at d
  | cons x A=>exact Or.inr ⟨rfl,x,A,rfl,by simpa using d.2,by unfold qN;rw[if_neg (by rw[hm];decide),hA]⟩
theorem zU:(s.B=[]/\qL s=(s,0,false,false))∨(∃x f B,s.B=(x,f)::B/\qL s=({s with B:=B,rw:=uq s.rw x.pk f,C:=if s.C.length<s.room then s.C++[(x.id,pkB (ue s.rw x.pk f))] else s.C.tail++[(x.id,pkB (ue s.rw x.pk f))]},(if s.C.length<s.room then 0 else (s.C.head?.map (·.1)).getD 0),decide (¬s.C.length<s.room),true)):=by
 cases hB:s.B with
 | nil=>exact Or.inl ⟨rfl,by unfold qL;rw[hB]⟩
 | cons y B=>
  obtain⟨x,f⟩:=y;refine Or.inr ⟨x,f,B,rfl, ?_⟩;unfold qL vj;rw[hB];by_cases h:s.C.length<s.room<;>simp[h]
theorem yr (acc:Bool):(s.C=[]/\qH s acc=(s,0,0,false))∨(∃o C,s.C=o::C/\((jm s acc).2.2=false/\qH s acc=({s with C:=if acc then C else o::C,W:=if acc then s.W++[o] else s.W,row:=(jm s acc).1,gone:=(jm s acc).2.1},o.1,(if acc then 1 else 0),true)∨
  acc=false/\s.gone=false/\(jm s acc).2.1=true/\qH s acc=({s with A:=[],B:=[],C:=[],row:=(jm s acc).1,gone:=(jm s acc).2.1},o.1,7,true))):=by
 cases hC:s.C with
 | nil=>exact Or.inl ⟨rfl,by unfold qH;rw[hC]⟩
 | cons o C=>
  refine Or.inr ⟨o,C,rfl, ?_⟩;cases hb:(jm s acc).2.2 with
  | false=>exact Or.inl ⟨rfl,by unfold qH;rw[hC];simp[hb]⟩
  | true=>
   have d:s.gone=false:=by
    cases d:s.gone with
    | false=>rfl
    | true=>unfold jm at hb;rw[if_pos d] at hb;simp at hb
   have H:acc=false:=by
    cases acc with
    | false=>rfl
    | true=>unfold jm at hb;rw[if_neg (by rw[d];decide),if_pos rfl] at hb;simp at hb
   subst H;have G:(jm s false).2.1=(jm s false).2.2:=by unfold jm;rw[if_neg (by rw[d];decide)];rfl
   exact Or.inr ⟨rfl,d,by rw[G];exact hb,by unfold qH;rw[hC];simp[hb]⟩
theorem Bf (n:Int):(jA s n).1=s∨s.gone=false/\(jA s n).1={s with wanted:=true,cur:=if s.wanted then s.cur else -1,tgt:=n}:=by
 unfold jA;split
 ·exact Or.inl rfl
 ·split
  ·exact Or.inl rfl
  ·rename_i h;exact Or.inr ⟨by simpa using h,rfl⟩
end
def xJ (s:LnS):List Int:=s.A.map (·.id)++s.B.map (·.1.id)++s.C.map (·.1)
theorem QK (m:Bk) (sub f:Int) (k:Int×Int):qh (vQ m sub f) k=(qh m k).map λv=>if k.1=sub/\v=0 then f else v:=by
 unfold vQ
 induction m with
 | nil=>simp[qh]
 | cons p l ih=>
  obtain⟨⟨a,c⟩,g⟩:=p;simp only[List.map_cons];by_cases h:a=sub/\g=0
  ·rw[if_pos h];unfold qh;by_cases e:k=(a,c)
   ·subst e;simp[h]
   ·simp[e,ih]
  ·rw[if_neg h];unfold qh;by_cases e:k=(a,c)
   ·subst e;simp[h]
   ·simp[e,ih]
def xT (strs:List (Og×zu)) (id:Int):Prop:= ∃o t,qh strs o=some t/\id∈thJ t.buf.holds
structure qS (P:Int->Int->Prop) (s:RmS):Prop where
 org: ∀o t,qh s.strs o=some t->o∈orgs
 nd: ∀o t,qh s.strs o=some t->(thJ t.buf.holds).Nodup
 dis: ∀o t o' t',qh s.strs o=some t->qh s.strs o'=some t'-> ∀id,id∈thJ t.buf.holds->id∈thJ t'.buf.holds->o=o'
 few: ∀o t,qh s.strs o=some t-> ∀id∈thJ t.buf.holds,0<=id/\id<(s.pks.length:Int)
 sub: ∀x l,qh s.lanes x=some l->x∈subIds/\1<=l.room/\(xJ l).Nodup
 owd: ∀x l,qh s.lanes x=some l-> ∀id∈xJ l,qh s.book (x,id)=some 0/\ ¬xT s.strs id/\ ¬P x id
 src: ∀x id,qh s.book (x,id)=some 0-> ∃l,qh s.lanes x=some l/\l.gone=false/\l.wanted=true/\(id∈xJ l∨xT s.strs id∨P x id)
 bel: ∀x id v,qh s.book (x,id)=some v->0<=id/\id<(s.pks.length:Int)
def OwO (s:RmS):Prop:=qS (λ_ _=>False) s
theorem yj (b:Bk) (x id f:Int) (d:1<=f/\f<=8) (k:Int×Int):qh (jn b x id f) k=if k=(x,id)/\qh b k=some 0 then some f else qh b k:=by
 unfold jn;by_cases h:qh b (x,id)=some 0
 ·rw[if_pos h];unfold zg;rw[if_pos d,if_pos (by rw[h];rfl),if_pos (by rw[h];rfl),qy];by_cases e:k=(x,id)
  ·rw[if_pos e,if_pos ⟨e,by rw[e];exact h⟩]
  ·rw[if_neg e,if_neg (λc=>e c.1)]
 ·rw[if_neg h];by_cases e:k=(x,id)
  ·rw[if_neg (λc=>h (by rw[<-e];exact c.2))]
  ·rw[if_neg (λc=>e c.1)]
theorem yO (x f:Int) (H:1<=f/\f<=8) (k:Int×Int): ∀(E:List Int) (b:Bk),qh (E.foldl (λb id=>jn b x id f) b) k=if (k.1=x/\k.2∈E)/\qh b k=some 0 then some f else qh b k
 | [],b=>by simp
 | id::E,b=>by
  rw[List.foldl_cons,yO x f H k E,yj b x id f H];obtain⟨G,d⟩:=k;have I:f≠0:=by omega
  by_cases h0:qh b (G,d)=some 0
  ·by_cases e:G=x<;>by_cases e2:d=id<;>by_cases e3:d∈E<;>simp[h0,e,e2,e3]
   all_goals (simp_all)
  ·by_cases e:G=x<;>by_cases e2:d=id<;>by_cases e3:d∈E<;>simp[h0]
theorem yx (id f:Int) (H:1<=f/\f<=8) (k:Int×Int): ∀(E:List Int) (b:Bk),qh (xF b E id f) k=if (k.2=id/\k.1∈E)/\qh b k=some 0 then some f else qh b k
 | [],b=>by simp[xF]
 | x::E,b=>by
  have I:=yx id f H k E (jn b x id f);unfold xF at I ⊢;rw[List.foldl_cons,I,yj b x id f H];obtain⟨d,G⟩:=k;have J:f≠0:=by omega
  by_cases h0:qh b (d,G)=some 0
  ·by_cases e:G=id<;>by_cases e2:d=x<;>by_cases e3:d∈E<;>simp[h0,e,e2,e3]
   all_goals (simp_all)
  ·by_cases e:G=id<;>by_cases e2:d=x<;>by_cases e3:d∈E<;>simp[h0]
section
variable {P P':Int->Int->Prop} {s s':RmS}
theorem qS.iff (h:qS P s) (e: ∀x i,P x i↔P' x i):qS P' s:=
  ⟨h.org,h.nd,h.dis,h.few,h.sub,λx l J i hi=>by obtain⟨d,G,H⟩:=h.owd x l J i hi;exact⟨d,G,λc=>H ((e x i).2 c)⟩,
   λx i hi=>by obtain⟨l,d,G,H,I⟩:=h.src x i hi;exact⟨l,d,G,H,by rw[<-e];exact I⟩,h.bel⟩
theorem qS.same (h:qS P s) (Y:s'.strs=s.strs) (aa:s'.lanes=s.lanes) (ab:s'.book=s.book) (ac:s'.pks=s.pks):qS P s':=by
 obtain⟨J,N,O,H,U,d,G,I⟩:=h;rw[<-Y] at J N O H d G;rw[<-aa] at U d G;rw[<-ab] at d G I;rw[<-ac] at H I;exact⟨J,N,O,H,U,d,G,I⟩
theorem qS.laneN (h:qS P s) {x:Int} {l l':LnS} (N:qh s.lanes x=some l) (J E:List Int) (f:Int) (ab:1<=f/\f<=8) (ad:(xJ l'++E).Perm (J++xJ l)) (ae: ∀i∈J,P x i/\ ¬xT s.strs i/\qh s.book (x,i)=some 0) (U:J.Nodup) (al:l'.room=l.room) (aj:l'.gone=l.gone) (am:l.wanted=true->l'.wanted=true):
  qS (λy i=>P y i/\ ¬(y=x/\i∈J)) {s with lanes:=qw s.lanes x l',book:=E.foldl (λb id=>jn b x id f) s.book}:=by
 have ai:f≠0:=by omega
 have ak:(xJ l'++E).Nodup:=by
  rw[ad.nodup_iff,List.nodup_append];refine⟨U,(h.sub x l N).2.2,λa ag b ah e=> ?_⟩;subst e;exact(h.owd x l N a ah).2.2 (ae a ag).1
 have U:=List.nodup_append.1 ak;refine⟨h.org,h.nd,h.dis,h.few,λy m G=> ?_,λy m G id ac=> ?_,λy id O=> ?_,λy id v Y=> ?_⟩
 ·rw[qy] at G;split at G
  ·rename_i e;injection G with e2
   subst e e2;exact⟨(h.sub _ l N).1,by rw[al];exact(h.sub _ l N).2.1,U.1⟩
  ·exact h.sub y m G
 ·simp only at G ⊢;rw[qy] at G;rw[yO x f ab];split at G
  ·rename_i e;injection G with e2
   subst e e2;have af: ¬id∈E:=λc=>U.2.2 id ac id c rfl
   rw[if_neg (λc=>af c.1.2)];rcases List.mem_append.1 (ad.subset (List.mem_append_left _ ac)) with hi | hi
   ·obtain⟨I,H,d⟩:=ae id hi;exact⟨d,H,λc=>c.2 ⟨rfl,hi⟩⟩
   ·obtain⟨I,H,d⟩:=h.owd y l N id hi;exact⟨I,H,λc=>d c.1⟩
  ·rename_i e;obtain⟨I,H,d⟩:=h.owd y m G id ac;exact⟨by rw[if_neg (λc=>e c.1.1)];exact I,H,λc=>d c.1⟩
 ·simp only at O ⊢;rw[yO x f ab] at O;split at O
  ·injection O with e
   exact absurd e ai
  ·rename_i aa;obtain⟨m,G,I,H,d⟩:=h.src y id O;rw[qy];by_cases e:y=x
   ·subst e;rw[N] at G;injection G with e2
    subst e2;refine⟨l',by rw[if_pos rfl],by rw[aj];exact I,am H, ?_⟩;have key:id∈J++xJ l->id∈xJ l':=λd=>by
     rcases List.mem_append.1 (ad.symm.subset d) with h4 | h4
     ·exact h4
     ·exact absurd ⟨⟨rfl,h4⟩,O⟩ aa
    rcases d with d | d | d
    ·exact Or.inl (key (List.mem_append_right _ d))
    ·exact Or.inr (Or.inl d)
    ·by_cases hi:id∈J
     ·exact Or.inl (key (List.mem_append_left _ hi))
     ·exact Or.inr (Or.inr ⟨d,λc=>hi c.2⟩)
   ·refine⟨m,by rw[if_neg e];exact G,I,H, ?_⟩;rcases d with d | d | d
    ·exact Or.inl d
    ·exact Or.inr (Or.inl d)
    ·exact Or.inr (Or.inr ⟨d,λc=>e c.1⟩)
 ·simp only at Y;rw[yO x f ab] at Y;split at Y
  ·rename_i aa;exact h.bel y id 0 aa.2
  ·exact h.bel y id v Y
theorem qS.lane (h:qS P s) {x:Int} {l l':LnS} (H:qh s.lanes x=some l) (E:List Int) (f:Int) (d:1<=f/\f<=8) (I:(xJ l'++E).Perm (xJ l)) (J:l'.room=l.room) (G:l'.gone=l.gone) (N:l.wanted=true->l'.wanted=true):
  qS P {s with lanes:=qw s.lanes x l',book:=E.foldl (λb id=>jn b x id f) s.book}:=
 (h.laneN H [] E f d I (λi hi=>by simp at hi) List.nodup_nil J G N).iff λy i=>by simp
theorem qS.endL (h:qS P s) (x:Int) {L:List (Int×LnS)} {b:Bk} (J: ∀y,y≠x->qh L y=qh s.lanes y) (U: ∀m,qh L x=some m->x∈subIds/\1<=m.room/\xJ m=[])
  (I: ∀y i,y≠x->qh b (y,i)=qh s.book (y,i)) (Y: ∀i,qh b (x,i)≠some 0) (aa: ∀i v,qh b (x,i)=some v-> ∃v',qh s.book (x,i)=some v'):qS P {s with lanes:=L,book:=b}:=by
 refine⟨h.org,h.nd,h.dis,h.few,λy m d=> ?_,λy m d i hi=> ?_,λy i H=> ?_,λy i v G=> ?_⟩
 ·by_cases e:y=x
  ·subst e;obtain⟨N,O,a3⟩:=U m d;exact⟨N,O,by rw[a3];exact List.nodup_nil⟩
  ·exact h.sub y m (by rw[<-J y e];exact d)
 ·by_cases e:y=x
  ·subst e;obtain⟨N,O,a3⟩:=U m d;rw[a3] at hi;simp at hi
  ·simp only at d ⊢;rw[I y i e];exact h.owd y m (by rw[<-J y e];exact d) i hi
 ·by_cases e:y=x
  ·subst e;exact absurd H (Y i)
  ·simp only at H ⊢;rw[I y i e] at H;rw[J y e];exact h.src y i H
 ·by_cases e:y=x
  ·subst e;obtain⟨v',ab⟩:=aa i v G;exact h.bel y i v' ab
  ·simp only at G;rw[I y i e] at G;exact h.bel y i v G
theorem held_put {strs:List (Og×zu)} {o:Og} {t':zu} {i:Int}:xT (qw strs o t') i↔i∈thJ t'.buf.holds∨ ∃G t,G≠o/\qh strs G=some t/\i∈thJ t.buf.holds:=by
 constructor
 ·rintro⟨G,t,d,H⟩;rw[qy] at d;by_cases e:G=o
  ·rw[if_pos e] at d;injection d with e1
   subst e1;exact Or.inl H
  ·rw[if_neg e] at d;exact Or.inr ⟨G,t,e,d,H⟩
 ·rintro(h | ⟨G,t,e,d,H⟩)
  ·exact⟨o,t',by rw[qy,if_pos rfl],h⟩
  ·exact⟨G,t,by rw[qy,if_neg e];exact d,H⟩
theorem qS.shrink (h:qS P s) {o:Og} {t t':zu} (I:qh s.strs o=some t) (E:List Int) (N:(thJ t'.buf.holds++E).Perm (thJ t.buf.holds)):
  qS (λx i=>P x i∨i∈E) {s with strs:=qw s.strs o t'}/\(∀i∈E,¬xT (qw s.strs o t') i)/\ ∀i,xT (qw s.strs o t') i->xT s.strs i:=by
 have ak:=N.nodup_iff.2 (h.nd o t I);have U:=List.nodup_append.1 ak;have ab: ∀i,xT (qw s.strs o t') i->xT s.strs i:=λi hi=>by
  rcases held_put.1 hi with J | ⟨G,u,_,O,h3⟩
  ·exact⟨o,t,I,N.subset (List.mem_append_left _ J)⟩
  ·exact⟨G,u,O,h3⟩
 have am: ∀i,xT s.strs i->xT (qw s.strs o t') i∨i∈E:=λi ⟨G,u,J,O⟩=>by
  by_cases e:G=o
  ·subst e;rw[I] at J;injection J with e1
   subst e1;rcases List.mem_append.1 (N.symm.subset O) with h3 | h3
   ·exact Or.inl (held_put.2 (Or.inl h3))
   ·exact Or.inr h3
  ·exact Or.inl (held_put.2 (Or.inr ⟨G,u,e,J,O⟩))
 refine⟨⟨λG u d=> ?_,λG u d=> ?_,λan aq o2 ar Y aa i ah ai=> ?_,λG u d i hi=> ?_,h.sub,λx l aj i hi=> ?_,λx i al=> ?_,h.bel⟩,λi hi ag=> ?_,ab⟩
 ·rw[qy] at d;split at d
  ·rename_i e;rw[e];exact h.org o t I
  ·exact h.org G u d
 ·rw[qy] at d;split at d
  ·injection d with e
   subst e;exact U.1
  ·exact h.nd G u d
 ·simp only[qy] at Y aa;have q: ∀{G:Og} {u:zu},(if G=o then some t' else qh s.strs G)=some u->i∈thJ u.buf.holds-> ∃v,qh s.strs G=some v/\i∈thJ v.buf.holds:=by
   intro G u d hi;split at d
   ·rename_i e;injection d with e2
    subst e2;exact⟨t,by rw[e];exact I,N.subset (List.mem_append_left _ hi)⟩
   ·exact⟨u,d,hi⟩
  obtain⟨ao,ac,ae⟩:=q Y ah;obtain⟨ap,ad,af⟩:=q aa ai;exact h.dis an ao o2 ap ac ad i ae af
 ·simp only at d;rw[qy] at d;split at d
  ·injection d with e
   subst e;exact h.few o t I i (N.subset (List.mem_append_left _ hi))
  ·exact h.few G u d i hi
 ·obtain⟨a,b,c⟩:=h.owd x l aj i hi;refine⟨a,λH=>b (ab i H),λH=>H.elim c λH=>b ⟨o,t,I,N.subset (List.mem_append_right _ H)⟩⟩
 ·obtain⟨l,a,b,c,H⟩:=h.src x i al;refine⟨l,a,b,c, ?_⟩;rcases H with H | H | H
  ·exact Or.inl H
  ·rcases am i H with e | e
   ·exact Or.inr (Or.inl e)
   ·exact Or.inr (Or.inr (Or.inr e))
  ·exact Or.inr (Or.inr (Or.inl H))
 ·rcases held_put.1 ag with J | ⟨G,u,e,O,h3⟩
  ·exact U.2.2 i J i hi rfl
  ·exact e (h.dis G u o t O I i h3 (N.subset (List.mem_append_right _ hi)))
theorem qS.keep (h:qS P s) {o:Og} {t t':zu} (d:qh s.strs o=some t) (e:t'.buf.holds=t.buf.holds):qS P {s with strs:=qw s.strs o t'}:=
 (h.shrink (t':=t') d [] (by rw[e,List.append_nil])).1.iff λx i=>by simp
theorem qS.strNew (h:qS P s) {o:Og} {t':zu} (ac:o∈orgs) (ab:qh s.strs o=none) (e:t'.buf.holds=[]):qS P {s with strs:=qw s.strs o t'}:=by
 have k: ∀i,xT (qw s.strs o t') i↔xT s.strs i:=λi=>by
  rw[held_put,e];constructor
  ·rintro(Y | ⟨G,u,_,H,I⟩)
   ·simp[thJ] at Y
   ·exact⟨G,u,H,I⟩
  ·rintro⟨G,u,H,I⟩;exact Or.inr ⟨G,u,(λc=>by rw[c,ab] at H;cases H),H,I⟩
 refine⟨λG u d=> ?_,λG u d=> ?_,λae af o2 ag O U i J N=> ?_,λG u d i hi=> ?_,h.sub,λx l aa i hi=> ?_,λx i ad=> ?_,h.bel⟩
 ·rw[qy] at d;split at d
  ·rename_i e;rw[e];exact ac
  ·exact h.org G u d
 ·rw[qy] at d;split at d
  ·injection d with e2
   subst e2;rw[e];exact List.nodup_nil
  ·exact h.nd G u d
 ·simp only[qy] at O U;have q: ∀{G:Og} {u:zu},(if G=o then some t' else qh s.strs G)=some u->i∈thJ u.buf.holds->qh s.strs G=some u:=by
   intro G u d hi;split at d
   ·injection d with e2
    subst e2;rw[e] at hi;simp[thJ] at hi
   ·exact d
  exact h.dis ae af o2 ag (q O J) (q U N) i J N
 ·simp only at d;rw[qy] at d;split at d
  ·injection d with e2
   subst e2;rw[e] at hi;simp[thJ] at hi
  ·exact h.few G u d i hi
 ·rw[k];exact h.owd x l aa i hi
 ·simp only[k];exact h.src x i ad
theorem qS.grow (h:qS P s) {o:Og} {t t':zu} (N:qh s.strs o=some t) (I:Int) (O:(thJ t'.buf.holds).Perm (I::thJ t.buf.holds)) (hi:0<=I/\I<(s.pks.length:Int)) (ad: ¬xT s.strs I) (ar: ∀x l,qh s.lanes x=some l->I∉xJ l):
  qS (λx i=>P x i/\i≠I) {s with strs:=qw s.strs o t'}:=by
 have av:(thJ t'.buf.holds).Nodup:=by
  rw[O.nodup_iff,List.nodup_cons];exact⟨λc=>ad ⟨o,t,N,c⟩,h.nd o t N⟩
 have ae: ∀i,xT (qw s.strs o t') i↔i=I∨xT s.strs i:=λi=>by
  rw[held_put];constructor
  ·rintro(ac | ⟨G,u,_,U,Y⟩)
   ·rcases List.mem_cons.1 (O.subset ac) with h4 | h4
    ·exact Or.inl h4
    ·exact Or.inr ⟨o,t,N,h4⟩
   ·exact Or.inr ⟨G,u,U,Y⟩
  ·rintro(ac | ⟨G,u,U,Y⟩)
   ·exact Or.inl (O.symm.subset (by rw[ac];exact List.mem_cons_self))
   ·by_cases e:G=o
    ·subst e;rw[N] at U;injection U with aa
     subst aa;exact Or.inl (O.symm.subset (List.mem_cons_of_mem _ Y))
    ·exact Or.inr ⟨G,u,e,U,Y⟩
 refine⟨λG u d=> ?_,λG u d=> ?_,λam ax o2 ay ak al i au J=> ?_,λG u d i J=> ?_,h.sub,λx l aj i J=> ?_,λx i aw=> ?_,h.bel⟩
 ·rw[qy] at d;split at d
  ·rename_i e;rw[e];exact h.org o t N
  ·exact h.org G u d
 ·rw[qy] at d;split at d
  ·injection d with e
   subst e;exact av
  ·exact h.nd G u d
 ·simp only[qy] at ak al;have q: ∀{G:Og} {u:zu},(if G=o then some t' else qh s.strs G)=some u->i∈thJ u.buf.holds->(i=I/\G=o)∨ ∃v,qh s.strs G=some v/\i∈thJ v.buf.holds:=by
   intro G u d hi;split at d
   ·rename_i e;injection d with ab
    subst ab;rcases List.mem_cons.1 (O.subset hi) with h4 | h4
    ·exact Or.inl ⟨h4,e⟩
    ·exact Or.inr ⟨t,by rw[e];exact N,h4⟩
   ·exact Or.inr ⟨u,d,hi⟩
  rcases q ak au with ⟨aa,ab⟩ | ⟨an,af,ah⟩<;>rcases q al J with ⟨ap,aq⟩ | ⟨ao,ag,ai⟩
  ·rw[ab,aq]
  ·exact absurd ⟨o2,ao,ag,by rw[<-aa];exact ai⟩ ad
  ·exact absurd ⟨am,an,af,by rw[<-ap];exact ah⟩ ad
  ·exact h.dis am an o2 ao af ag i ah ai
 ·simp only at d;rw[qy] at d;split at d
  ·injection d with e
   subst e;rcases List.mem_cons.1 (O.subset J) with h4 | h4
   ·rw[h4];exact hi
   ·exact h.few o t N i h4
  ·exact h.few G u d i J
 ·obtain⟨a,b,c⟩:=h.owd x l aj i J;refine⟨a,λH=> ?_,λH=>c H.1⟩;rcases(ae i).1 H with e | e
  ·exact ar x l aj (by rw[<-e];exact J)
  ·exact b e
 ·obtain⟨l,a,b,c,H⟩:=h.src x i aw;refine⟨l,a,b,c, ?_⟩;rcases H with H | H | H
  ·exact Or.inl H
  ·exact Or.inr (Or.inl ((ae i).2 (Or.inr H)))
  ·by_cases e:i=I
   ·exact Or.inr (Or.inl ((ae i).2 (Or.inl e)))
   ·exact Or.inr (Or.inr ⟨H,e⟩)
theorem qS.settled (h:qS P s) (L:List Int) (H f:Int) (N:1<=f/\f<=8) (U: ∀x,qh s.book (x,H)=some 0->x∈L) (Y: ∀x l,qh s.lanes x=some l->H∉xJ l):
  qS (λx i=>P x i/\i≠H) {s with book:=xF s.book L H f}:=by
 have aa:f≠0:=by omega
 refine⟨h.org,h.nd,h.dis,h.few,h.sub,λx l O i hi=> ?_,λx i G=> ?_,λx i v I=> ?_⟩
 ·obtain⟨a,b,c⟩:=h.owd x l O i hi;simp only;rw[yx H f N,if_neg (λe=>Y x l O (by rw[<-e.1.1];exact hi))];exact⟨a,b,λd=>c d.1⟩
 ·simp only at G ⊢;rw[yx H f N] at G;split at G
  ·injection G with e
   exact absurd e aa
  ·rename_i J;obtain⟨l,a,b,c,d⟩:=h.src x i G;refine⟨l,a,b,c, ?_⟩;rcases d with d | d | d
   ·exact Or.inl d
   ·exact Or.inr (Or.inl d)
   ·exact Or.inr (Or.inr ⟨d,λe=>J ⟨⟨e,U x (by rw[<-e];exact G)⟩,G⟩⟩)
 ·simp only at I;rw[yx H f N] at I;split at I
  ·rename_i J;exact h.bel x i 0 J.2
  ·exact h.bel x i v I
end
theorem KC (l:LnS):(xJ (qN l).1++(if (qN l).2.2.2&& !decide ((qN l).2.2.1=0) then [(qN l).2.1] else [])).Perm (xJ l)/\(qN l).1.room=l.room/\(qN l).1.gone=l.gone/\(qN l).1.wanted=l.wanted/\(qN l).2.2.1<=8/\0<=(qN l).2.2.1:=by
 rcases zP l with ⟨_,e⟩ | ⟨_,x,A,d,_,e⟩
 ·rw[e];simp
 ·rw[e];refine⟨?_,rfl,rfl,rfl, ?_⟩
  ·unfold xJ;rw[d];by_cases ht:(xK l.cur l.tgt x.layer x.key).2.1=0
   ·simp only[ht,if_true,decide_true,Bool.not_true,Bool.and_false,Bool.false_eq_true,if_false,List.append_nil,List.map_append,List.map_cons,List.map_nil];rw[List.perm_iff_count];intro a;simp only[List.count_append,List.count_cons,List.count_nil];omega
   ·simp only[ht,if_false,decide_false,Bool.not_false,Bool.and_true,if_true,List.map_cons];rw[List.perm_iff_count];intro a;simp only[List.count_append,List.count_cons,List.count_nil];omega
  ·unfold xK
   repeat' split
   all_goals (simp)
theorem Y4 (l:LnS) (h:1<=l.room):(xJ (qL l).1++(if (qL l).2.2.2&&(qL l).2.2.1 then [(qL l).2.1] else [])).Perm (xJ l)/\(qL l).1.room=l.room/\(qL l).1.gone=l.gone/\(qL l).1.wanted=l.wanted:=by
 rcases zU l with ⟨_,e⟩ | ⟨x,f,B,d,e⟩
 ·rw[e];simp
 ·rw[e];refine⟨?_,rfl,rfl,rfl⟩;unfold xJ;rw[d];by_cases hc:l.C.length<l.room
  ·simp only[hc,if_true,not_true,decide_false,Bool.and_false,Bool.false_eq_true,if_false,List.append_nil,List.map_append,List.map_cons,List.map_nil];rw[List.perm_iff_count];intro a;simp only[List.count_append,List.count_cons,List.count_nil];omega
  ·cases hC:l.C with
   | nil=>rw[hC] at hc;simp at hc;omega
   | cons o C=>
    rw[hC] at hc;simp only[hc,if_false,not_false_eq_true,decide_true,Bool.and_true,if_true,List.map_append,List.map_cons,List.map_nil,List.tail_cons,List.head?_cons,Option.map_some,Option.getD_some];rw[List.perm_iff_count];intro a;simp only[List.count_append,List.count_cons,List.count_nil];omega
theorem BU (l:LnS) (x:ItS) (h:1<=l.room) (d:l.gone=false) (G:l.wanted=true) (H:jM x.pk=true) (I:jc x.layer=true):(xJ (jL l x).1++(if (jL l x).2.2.1 then [(jL l x).2.1] else [])).Perm (x.id::xJ l)/\(jL l x).1.room=l.room/\(jL l x).1.gone=l.gone/\(jL l x).1.wanted=l.wanted:=by
 have e:jL l x=((yH l x).1,(yH l x).2.1,(yH l x).2.2,0):=by unfold jL;rw[d,G,H,I];simp
 rw[e];unfold yH;by_cases hc:l.A.length<l.room
 ·rw[if_pos hc];refine⟨?_,rfl,rfl,rfl⟩;unfold xJ;simp only[Bool.false_eq_true,if_false,List.append_nil,List.map_append,List.map_cons,List.map_nil];rw[List.perm_iff_count];intro a;simp only[List.count_append,List.count_cons,List.count_nil];omega
 ·rw[if_neg hc];refine⟨?_,rfl,rfl,rfl⟩;unfold xJ;cases hA:l.A with
  | nil=>rw[hA] at hc;simp at hc;omega
  | cons o A=>
   simp only[if_true,List.map_append,List.map_cons,List.map_nil,List.tail_cons,List.head?_cons,Option.map_some,Option.getD_some];rw[List.perm_iff_count];intro a;simp only[List.count_append,List.count_cons,List.count_nil];omega
theorem U9 (l:LnS) (n:Int) (d:n=1∨n=2∨n=3):(xJ (vU l n)++KP l n).Perm (xJ l):=by
 unfold xJ vU KP;rcases d with rfl | rfl | rfl<;>simp only[if_true,(by decide: ¬(2:Int)=1),(by decide: ¬(3:Int)=1),(by decide: ¬(3:Int)=2),(by decide: ¬(1:Int)=2),(by decide: ¬(1:Int)=3),(by decide: ¬(2:Int)=3),if_false,List.map_nil,List.nil_append,List.append_nil]
 ·rw[List.perm_iff_count];intro a;simp only[List.count_append];omega
 ·rw[List.perm_iff_count];intro a;simp only[List.count_append];omega
 ·exact List.Perm.refl _
section
variable {P P':Int->Int->Prop} {s s':RmS}
theorem qS.fin (h:qS P s) (J: ∀y i,P y i->y∈subIds->False):OwO s:=
  ⟨h.org,h.nd,h.dis,h.few,h.sub,λx l N i hi=>by obtain⟨G,H,_⟩:=h.owd x l N i hi;exact⟨G,H,λc=>c⟩,
   λx i hi=>by
    obtain⟨l,G,H,I,d⟩:=h.src x i hi
    refine⟨l,G,H,I, ?_⟩
    rcases d with d | d | d
    · exact Or.inl d
    · exact Or.inr (Or.inl d)
    · exact(J x i d (h.sub x l G).1).elim,h.bel⟩
theorem qS.choose (h:qS P s) (x:Int):qS P (s.choose x):=by
 unfold RmS.choose;cases hl:qh s.lanes x with
 | none=>exact h
 | some l=>
  obtain⟨d,H,G,I,N,J⟩:=KC l;simp only;cases hc:(qN l).2.2.2&& !decide ((qN l).2.2.1=0) with
  | false=>
   rw[hc] at d;simp only[Bool.false_eq_true,if_false] at d ⊢;exact h.lane hl [] 1 ζ d H G (λe=>by rw[I];exact e)
  | true=>
   rw[hc] at d;simp only[if_true] at d ⊢;have:(qN l).2.2.1≠0:=by
    intro e;rw[e] at hc;simp at hc
   exact h.lane hl [(qN l).2.1] (qN l).2.2.1 τ d H G (λe=>by rw[I];exact e)
theorem qS.rewrite (h:qS P s) (x:Int):qS P (s.rewrite x):=by
 unfold RmS.rewrite;cases hl:qh s.lanes x with
 | none=>exact h
 | some l=>
  obtain⟨d,H,G,I⟩:=Y4 l (h.sub x l hl).2.1;simp only;cases hc:(qL l).2.2.2&&(qL l).2.2.1 with
  | false=>
   rw[hc] at d;simp only[Bool.false_eq_true,if_false] at d ⊢;exact h.lane hl [] 1 ζ d H G (λe=>by rw[I];exact e)
  | true=>
   rw[hc] at d;simp only[if_true] at d ⊢;exact h.lane hl [(qL l).2.1] 6 ζ d H G (λe=>by rw[I];exact e)
theorem qS.drainL (h:qS P s) (w:Og):qS P (s.drainL w):=by
 unfold RmS.drainL;cases hl:qh s.lanes w.2 with
 | none=>exact h
 | some l=>
  simp only;refine h.lane hl (KP l (j7 w.1)) 8 ζ (U9 l _ ?_) rfl rfl (λe=>e);unfold j7
  repeat' split
  all_goals simp
theorem V7 (m:Bk) (x i:Int) {f:Int} (d:f≠0):qh (vQ m x f) (x,i)≠some 0:=by
 rw[QK];cases qh m (x,i) with
 | none=>simp
 | some v=>
  simp only[Option.map_some,true_and];split
  ·intro e;injection e with e;exact d e
  ·rename_i G;intro e;injection e with e;exact G e
theorem XL (m:Bk) {x y:Int} (i f:Int) (h:y≠x):qh (vQ m x f) (y,i)=qh m (y,i):=by
 rw[QK];cases qh m (y,i) with
 | none=>rfl
 | some v=>simp[h]
theorem V3 (m:Bk) (x i f v:Int) (h:qh (vQ m x f) (x,i)=some v): ∃v',qh m (x,i)=some v':=by
 rw[QK] at h;cases hm:qh m (x,i) with
 | none=>rw[hm] at h;cases h
 | some v'=>exact⟨v',rfl⟩
theorem qS.write (h:qS P s) (x:Int) (acc:Bool):qS P (s.write x acc):=by
 unfold RmS.write;cases hl:qh s.lanes x with
 | none=>exact h
 | some l=>
  have ac:l.gone=true->xJ l=[]:=λd=>by
   cases hi:xJ l with
   | nil=>rfl
   | cons i L=>
    obtain⟨ad,_⟩:=h.owd x l hl i (by rw[hi];exact List.mem_cons_self);obtain⟨af,U,Y,_⟩:=h.src x i ad;rw[hl] at U;injection U with e
    subst e;rw[d] at Y;cases Y
  simp only;cases d:(qH l acc).1.gone with
  | true=>
   have hi:(qH l acc).1.room=l.room/\xJ (qH l acc).1=[]:=by
    rcases yr l acc with ⟨_,e⟩ | ⟨o,C,N,⟨G,e⟩ | ⟨_,_,_,e⟩⟩
    ·rw[e] at d ⊢;exact⟨rfl,ac d⟩
    ·rw[e] at d;simp only at d;exfalso;have H:l.gone=true:=by
      cases H:l.gone with
      | true=>rfl
      | false=>
       unfold jm at G d;rw[if_neg (by rw[H];decide)] at G d;cases acc with
       | true=>simp at d
       | false=>
        simp only[Bool.false_eq_true,if_false] at G d;rw[G] at d;cases d
     have:=ac H;unfold xJ at this;rw[N] at this;simp at this
    ·rw[e];exact⟨rfl,rfl⟩
   simp only[if_true];obtain⟨b,G,aa⟩: ∃b,(if (qH l acc).2.2.2&&decide ((qH l acc).2.2.1=1) then jn s.book x (qH l acc).2.1 (qH l acc).2.2.1 else s.book)=b/\(∀y i,y≠x->qh b (y,i)=qh s.book (y,i))/\ ∀i v,qh b (x,i)=some v-> ∃v',qh s.book (x,i)=some v':=by
    refine⟨_,rfl, ?_⟩;split
    ·rename_i O;rw[Bool.and_eq_true] at O;have:(qH l acc).2.2.1=1:=of_decide_eq_true O.2;rw[this];refine⟨λy i J=> ?_,λi v I=> ?_⟩
     ·rw[yj _ _ _ _ ζ,if_neg (λc=>J (by have:=congrArg Prod.fst c.1;exact this))]
     ·rw[yj _ _ _ _ ζ] at I;split at I
      ·rename_i O;exact⟨0,O.2⟩
      ·exact⟨v,I⟩
    ·exact⟨λy i J=>rfl,λi v I=>⟨v,I⟩⟩
   rw[G];refine(h.endL x (L:=qw s.lanes x (qH l acc).1) (b:=vQ b x 7) (λy J=>by rw[qy,if_neg J]) (λm ab=> ?_) (λy i J=> ?_) (λi=>V7 b x i ζ) (λi v I=> ?_)).same rfl rfl rfl rfl
   ·rw[qy,if_pos rfl] at ab;injection ab with e
    subst e;exact⟨(h.sub x l hl).1,by rw[hi.1];exact(h.sub x l hl).2.1,hi.2⟩
   ·rw[XL b i 7 J];exact aa.1 y i J
   ·obtain⟨v',ae⟩:=V3 b x i 7 v I;exact aa.2 i v' ae
  | false=>
   simp only[Bool.false_eq_true,if_false];rcases yr l acc with ⟨_,e⟩ | ⟨o,C,N,⟨G,e⟩ | ⟨_,_,G,e⟩⟩
   ·rw[e] at d ⊢;simp only[Bool.false_and,Bool.false_eq_true,if_false];exact(h.lane hl [] 1 ζ (by rw[List.append_nil]) rfl rfl (λe=>e)).same rfl rfl rfl rfl
   ·rw[e] at d ⊢;simp only at d;have H:l.gone=false:=by
     cases H:l.gone with
     | false=>rfl
     | true=>
      unfold jm at d;rw[if_pos H] at d;cases d
    cases acc with
    | true=>
     simp only[if_true,Bool.true_and,decide_true];refine(h.lane (l':={l with C:=C,W:=l.W++[o],row:=(jm l true).1,gone:=(jm l true).2.1}) hl [o.1] 1 ζ ?_ rfl (by rw[H];exact d) (λe=>e)).same rfl rfl rfl rfl;unfold xJ;rw[N];rw[List.perm_iff_count];intro a;simp only[List.count_append,List.map_cons,List.count_cons,List.count_nil];omega
    | false=>
     simp only[Bool.false_eq_true,if_false,(by decide: ¬(0:Int)=1),decide_false,Bool.and_false];refine(h.lane (l':={l with C:=o::C,row:=(jm l false).1,gone:=(jm l false).2.1}) hl [] 1 ζ ?_ rfl (by rw[H];exact d) (λe=>e)).same rfl rfl rfl rfl;unfold xJ;rw[N,List.append_nil]
   ·rw[e] at d;simp only at d;rw[G] at d;cases d
theorem ZL (d:ItS) (x:Int):(s.put1 d x).strs=s.strs/\(s.put1 d x).pks=s.pks:=by
 unfold RmS.put1;split
 ·cases qh s.lanes x with
  | none=>exact⟨rfl,rfl⟩
  | some l=>simp only;split<;>exact⟨rfl,rfl⟩
 ·exact⟨rfl,rfl⟩
theorem qS.put1 (h:qS P s) (d:ItS) (x:Int) (Y:P x d.id) (ab: ¬xT s.strs d.id) (ac:jM d.pk=true) (ad:jc d.layer=true):
  qS (λy i=>P y i/\ ¬(y=x/\i=d.id)) (s.put1 d x):=by
 unfold RmS.put1;by_cases ho:qh s.book (x,d.id)=some 0
 ·rw[if_pos ho];obtain⟨l,I,aa,ae,_⟩:=h.src x d.id ho;rw[I];simp only;obtain⟨H,N,O,U⟩:=BU l d (h.sub x l I).2.1 aa ae ac ad
  have key:=λE f hf (hq:(xJ (jL l d).1++E).Perm ([d.id]++xJ l))=>(h.laneN I [d.id] E f hf hq (λi hi=>by
   rw[List.mem_singleton] at hi;rw[hi]
   exact⟨Y,ab,ho⟩) η N O (λe=>by rw[U];exact e)).iff (P':=λy i=>P y i/\ ¬(y=x/\i=d.id)) (λy i=>by simp)
  cases hd:(jL l d).2.2.1 with
  | true=>
   rw[hd] at H;simp only[if_true] at H ⊢;exact key [(jL l d).2.1] 6 ζ H
  | false=>
   rw[hd] at H;simp only[Bool.false_eq_true,if_false] at H ⊢;exact key [] 6 ζ H
 ·rw[if_neg ho]
  exact⟨h.org,h.nd,h.dis,h.few,h.sub,λy l I i hi=>by obtain⟨a,b,c⟩:=h.owd y l I i hi;exact⟨a,b,λG=>c G.1⟩,λy i J=>by
   obtain⟨l,a,b,c,G⟩:=h.src y i J;refine⟨l,a,b,c, ?_⟩;rcases G with G | G | G
   ·exact Or.inl G
   ·exact Or.inr (Or.inl G)
   ·exact Or.inr (Or.inr ⟨G,λe=>ho (by rw[<-e.1,<-e.2];exact J)⟩),h.bel⟩
theorem qS.puts (G:ItS) (H:jM G.pk=true) (I:jc G.layer=true): ∀(L:List Int) {P:Int->Int->Prop} {s:RmS},qS P s->L.Nodup->(∀x∈L,P x G.id)-> ¬xT s.strs G.id->
  qS (λy i=>P y i/\ ¬(y∈L/\i=G.id)) (L.foldl (RmS.put1 G) s)
 | [],P,s,h,_,_,_=>h.iff λy i=>by simp
 | x::L,P,s,h,hn,hP,hh=>by
  rw[List.nodup_cons] at hn;rw[List.foldl_cons];have N:=h.put1 G x (hP x List.mem_cons_self) hh H I;refine(qS.puts G H I L N hn.2 (λy J=>⟨hP y (List.mem_cons_of_mem _ J),λe=>hn.1 (by rw[<-e.1];exact J)⟩) (by rw[(ZL G x).1];exact hh)).iff λy i=> ?_
  rw[List.mem_cons];constructor
  ·rintro⟨⟨a,b⟩,c⟩;exact⟨a,λd=>d.1.elim (λe=>b ⟨e,d.2⟩) (λe=>c ⟨e,d.2⟩)⟩
  ·rintro⟨a,b⟩;exact⟨⟨a,λd=>b ⟨Or.inl d.1,d.2⟩⟩,λd=>b ⟨Or.inr d.1,d.2⟩⟩
theorem Ce {b:Jb} {d:Int} (h:jN b d=true):(thJ (zV b d).1.holds++[(zV b d).2.2.1]).Perm (thJ b.holds):=by
 unfold zV;cases hb:b.holds with
 | nil=>unfold jN at h;rw[hb] at h;cases h
 | cons x T=>
  simp only[h,if_true];unfold jW;rw[hb];simp only[thJ,List.map_cons];exact List.perm_append_singleton _ _
theorem XH {o:Og} (h:o∈orgs):jc o.2=true:=by
 unfold orgs at h;simp only[List.mem_cons,List.not_mem_nil,or_false] at h;rcases h with rfl | rfl | rfl | rfl | rfl | rfl | rfl | rfl | rfl<;>rfl
theorem qS.order (h:OwO s) (U: ∀a∈s.pks,jM a.pk=true):OwO s.order:=by
 unfold RmS.order;cases d:s.ready with
 | none=>exact h
 | some o=>
  simp only;cases ht:qh s.strs o with
  | none=>exact h
  | some t=>
   simp only;have Y:jN t.buf s.clock=true:=by
    have:=List.find?_some d;unfold RmS.readyAt at this;rw[ht] at this;exact this
   have H:=Ce Y;obtain⟨I,J,aa⟩:=qS.shrink h (t':={t with buf:=(zV t.buf s.clock).1}) ht [(zV t.buf s.clock).2.2.1] H;have hi:=h.few o t ht _ (H.subset (List.mem_append_right _ List.mem_cons_self));unfold RmS.orderAt;have O:jM (s.item o (zV t.buf s.clock).2.2.1).pk=true:=by
    refine U _ ?_;have G:(zV t.buf s.clock).2.2.1.toNat<s.pks.length:=by omega
    rw[List.getD_eq_getElem?_getD,List.getElem?_eq_getElem G];exact List.getElem_mem G
   refine(qS.puts (s.item o (zV t.buf s.clock).2.2.1) O (XH (h.org o t ht)) subIds I ζ (λx _=>Or.inr List.mem_cons_self) (J _ List.mem_cons_self)).fin λy i N d=> ?_
   obtain⟨a,b⟩:=N;rcases a with a | a
   ·exact a
   ·rw[List.mem_singleton] at a;exact b ⟨d,a⟩
theorem qS.drain1s: ∀(L:List Int) {P:Int->Int->Prop} {s:RmS},qS P s->(∀i∈L,∀x l,qh s.lanes x=some l->i∉xJ l)->qS (λy i=>P y i/\i∉L) (L.foldl RmS.drain1 s)
 | [],P,s,h,_=>h.iff λy i=>by simp
 | i0::L,P,s,h,hL=>by
  rw[List.foldl_cons]
  have G:qS (λx i=>P x i/\i≠i0) (s.drain1 i0):=h.settled subIds i0 8 ζ (λx H=>by
   obtain⟨l,a,_⟩:=h.src x i0 H
   exact(h.sub x l a).1) (hL i0 List.mem_cons_self)
  refine(qS.drain1s L G (λi hi=>hL i (List.mem_cons_of_mem _ hi))).iff λy i=> ?_
  rw[List.mem_cons];constructor
  ·rintro⟨⟨a,b⟩,c⟩;exact⟨a,λd=>d.elim b c⟩
  ·rintro⟨a,b⟩;exact⟨⟨a,λd=>b (Or.inl d)⟩,λd=>b (Or.inr d)⟩
theorem UZ: ∀(n:Nat) (b:Jb),b.holds.length<=n->(Qx n b).holds=[]:=by
 intro n
 induction n with
 | zero=>intro b h;unfold Qx;exact List.length_eq_zero_iff.1 τ
 | succ n ih=>
  intro b h;unfold Qx;refine ih _ ?_;unfold jW;cases hb:b.holds with
  | nil=>simp only[hb];simp
  | cons x T=>rw[hb] at h;simp only[List.length_cons] at h ⊢;omega
theorem qS.drainO (h:OwO s) (o:Og):OwO (s.drainO o):=by
 unfold RmS.drainO;cases ht:qh s.strs o with
 | none=>exact h
 | some t=>
  simp only;have J:(vV t.buf).holds=[]:=UZ _ _ (Nat.le_refl _);obtain⟨d,N,O⟩:=qS.shrink h (t':={t with buf:=vV t.buf}) ht (thJ t.buf.holds) (by simp only[J];exact List.Perm.refl _);refine(qS.drain1s (thJ t.buf.holds) d (λi hi x l I H=>(h.owd x l I i H).2.1 ⟨o,t,ht,hi⟩)).fin λy i G _=> ?_
  obtain⟨a,b⟩:=G;exact a.elim id b
theorem qS.drainOs: ∀(L:List Og) {s:RmS},OwO s->OwO (L.foldl RmS.drainO s)
 | [],_,h=>h
 | o::L,_,h=>qS.drainOs L (qS.drainO h o)
end
theorem Yy {s:RdS} {n:Int} (G:0<=n) (h:(tkS s n).2=0):s.2=0/\n<=s.1.length/\((tkS s n).1.length:Int)=s.1.length-n/\((tkB s.1 n).length:Int)=n:=by
 obtain⟨l,e⟩:=s;unfold tkS tkE tkL at *;simp only at h ⊢;split at h
 ·cases h
 ·rename_i H;have d:n<=(l.length:Int):=by
   rcases Int.lt_or_le (l.length:Int) n with c | c
   ·exact absurd ⟨c,h⟩ H
   ·exact c
  refine⟨h,d, ?_,(uO G d).2⟩;rw[List.length_drop];omega
theorem YH: ∀(n:Nat) {s:RdS},(j6 n s).2.2=0->s.2=0/\4* n<=s.1.length/\(j6 n s).2.1.length=s.1.length-4* n
 | 0,s,h=>⟨h,τ,by show s.1.length=_;omega⟩
 | n+1,s,h=>by
  obtain⟨d,H,a3,_⟩:=Yy (s:=(j6 n s).2) (n:=4) ζ h;obtain⟨G,I,J⟩:=YH n d;refine⟨G,τ, ?_⟩;show (tkS (j6 n s).2 4).1.length=_;omega
theorem uw: ∀(n:Nat) {s:RdS},Byt s.1->Byt (j6 n s).2.1/\ ∀x∈(j6 n s).1,U32 x
 | 0,s,h=>⟨h,λx d=>by cases d⟩
 | n+1,s,h=>by
  obtain⟨a,b⟩:=uw n h;refine⟨a.drop _,λx d=> ?_⟩;rcases List.mem_append.1 d with c | c
  ·exact b x c
  ·rw[List.mem_singleton] at c;have G:=JR (s:=(j6 n s).2) a 4 ζ;rw[c];exact⟨G.1,by have:=G.2;show num (tkB (j6 n s).2.1 ((4:Nat):Int))<=4294967295;omega⟩
theorem Fq {f:Int} {s:RdS} (I:Byt s.1) (h:(vE f s).2=0):s.2=0/\(vE f s).1.length<=s.1.length/\Byt (vE f s).1:=by
 unfold vE at *;split at h
 ·rename_i d;exact absurd h d
 ·rename_i d;rw[if_neg d];have H:s.2=0:=Classical.not_not.1 d;split at h
  ·rename_i G;rw[if_pos G];split at h
   ·rename_i J;rw[if_pos J];refine⟨H, ?_⟩;simp only;unfold xN;split
    ·exact⟨Nat.zero_le _,xf⟩
    ·split
     ·exact⟨Nat.zero_le _,xf⟩
     ·exact⟨by rw[List.length_take];omega,I.take _⟩
   ·cases h
  ·rename_i G;rw[if_neg G];exact⟨H,Nat.le_refl _,I⟩
theorem WO {l:List Int} (h: ∀x∈l,U32 x) (i:Nat):U32 (l.getD i 0):=by
 rw[List.getD_eq_getElem?_getD];cases hi:l[i]? with
 | none=>exact⟨ζ,ζ⟩
 | some x=>exact h x (List.mem_of_getElem? hi)
theorem BQ {b:List Int} (I:Byt b) (h:(xk b).2=0):wP (xk b).1/\gu (xk b).1/\jM (xk b).1=true/\0<=(xk b).1.sq/\(xk b).1.sq<=65535:=by
 rw[<-Pp] at h ⊢;unfold KZ at h ⊢;split at h
 ·cases h
 ·rename_i ap;rw[if_neg ap];split at h
  ·cases h
  ·rename_i al;rw[if_neg al];split at h
   ·cases h
   ·rename_i ao;rw[if_neg ao];have J:Byt (b.drop 12):=I.drop 12;have am:Byt (yo (fH b) (b.drop 12,0)).2.1:=by
     unfold yo Qt;split
     ·exact(((uw _ J).1.drop _).drop _).drop _
     ·exact(uw _ J).1
    have N:(vE (fH b) (yo (fH b) (b.drop 12,0)).2).2=0:=by
     unfold Zh at h;split at h
     ·assumption
     ·rename_i an;exact absurd h an
    unfold Zh;rw[if_pos N];obtain⟨d,H,p2⟩:=Fq am N;have ay:(fH b%16).toNat<=15:=by omega
    have ac:=JR (s:=s2H b) ((I.drop _).drop _) 2 ζ;have ad:=JR (s:=s3H b) (((I.drop _).drop _).drop _) 4 ζ;have ae:=JR (s:=s4H b) ((((I.drop _).drop _).drop _).drop _) 4 ζ;have G:U16 (num (tkB (s2H b).1 2)):=⟨ac.1,by have:=ac.2;show num (tkB (s2H b).1 ((2:Nat):Int))<=65535;omega⟩;have ag:U32 (num (tkB (s3H b).1 4)):=⟨ad.1,by have:=ad.2;show num (tkB (s3H b).1 ((4:Nat):Int))<=4294967295;omega⟩;have af:U32 (num (tkB (s4H b).1 4)):=⟨ae.1,by have:=ae.2;show num (tkB (s4H b).1 ((4:Nat):Int))<=4294967295;omega⟩;have ax:(b.drop 12).length=b.length-12:=List.length_drop;unfold mkH;by_cases hx:fH b/16%2=1
    ·have e:yo (fH b) (b.drop 12,0)=(((j6 (fH b%16).toNat (b.drop 12,0)).1,(Qt (j6 (fH b%16).toNat (b.drop 12,0)).2).1.1,(Qt (j6 (fH b%16).toNat (b.drop 12,0)).2).1.2),(Qt (j6 (fH b%16).toNat (b.drop 12,0)).2).2):=by
      unfold yo;rw[if_pos hx]
     rw[e] at d H p2 N ⊢;obtain⟨O,ab⟩:=uw (fH b%16).toNat (s:=(b.drop 12,0)) J;have aq:=gU (fH b%16).toNat (b.drop 12,0);have aa:=λh=>YH (fH b%16).toNat (s:=(b.drop 12,0)) h
     generalize j6 (fH b%16).toNat (b.drop 12,0)=r at *;have ah:=JR (s:=r.2) O 2 ζ;have ar:=JR (s:=tkS r.2 2) (O.drop _) 2 ζ;unfold Qt at d H p2 ⊢;simp only at d H p2 ⊢;obtain⟨ai,au,a3,a4⟩:=Yy (by have:=ar.1;show 0<=4* num (tkB (tkS r.2 2).1 ((2:Nat):Int));omega) d;obtain⟨aj,av,aw,_⟩:=Yy ζ ai;obtain⟨c1,c2,c3,_⟩:=Yy ζ aj;obtain⟨ak,U,Y⟩:=aa c1;simp only at U Y;refine⟨⟨by simp only;omega,G,ag,af,WO ab,⟨ah.1,by have:=ah.2;show num (tkB r.2.1 ((2:Nat):Int))<=65535;omega⟩,jI ((O.drop _).drop _) _,p2⟩,⟨by simp only;omega,by simp only;omega,by simp only;omega⟩, ?_,G.1,G.2⟩;rw[yu];refine⟨by simp only;omega,by simp only;omega,λc=> ?_,by simp only;omega, ?_⟩
     ·simp only[decide_eq_false_iff_not] at c;exact absurd hx c
     ·unfold ww;simp only[hx,decide_true,if_true];omega
    ·have e:yo (fH b) (b.drop 12,0)=(((j6 (fH b%16).toNat (b.drop 12,0)).1,0,[]),(j6 (fH b%16).toNat (b.drop 12,0)).2):=by
      unfold yo;rw[if_neg hx]
     rw[e] at d H p2 N ⊢;obtain⟨O,ab⟩:=uw (fH b%16).toNat (s:=(b.drop 12,0)) J;have aq:=gU (fH b%16).toNat (b.drop 12,0);have aa:=λh=>YH (fH b%16).toNat (s:=(b.drop 12,0)) h
     generalize j6 (fH b%16).toNat (b.drop 12,0)=r at *;simp only at d H p2 ⊢;obtain⟨ak,U,Y⟩:=aa d;simp only at U Y;refine⟨⟨by simp only;omega,G,ag,af,WO ab,(⟨ζ,ζ⟩:U16 0),xf,p2⟩,⟨by simp only;omega,η,by simp only;omega⟩, ?_,G.1,G.2⟩;rw[yu];refine⟨by simp only;omega,by simp only;omega,λc=>⟨rfl,rfl⟩,η, ?_⟩;unfold ww;simp only[hx,decide_false,Bool.false_eq_true,if_false];omega
section
variable {P P':Int->Int->Prop} {s s':RmS}
theorem ZV (id:Int) (G:0<=id) (k:Int×Int): ∀(L:List Int) (b:Bk),(∀x∈L,0<=x/\x<6)->(∀x,qh b (x,id)=none∨qh b (x,id)=some 0)->qh (Jq b L id) k=if k.2=id/\k.1∈L then some 0 else qh b k
 | [],b,_,_=>by simp[Jq]
 | x::L,b,hL,hb=>by
  have d: ∀k,qh (vZ b (x,id)).1 k=if k=(x,id) then some 0 else qh b k:=by
   intro k;unfold vZ;rw[if_pos ⟨(hL x List.mem_cons_self).1,(hL x List.mem_cons_self).2,G⟩];rcases hb x with h | h
   ·rw[h];simp only[Option.isSome_none,Bool.false_eq_true,if_false];rw[qy]
   ·rw[h];simp only[Option.isSome_some,if_true];split
    ·rename_i e;rw[e,h]
    ·rfl
  have H:=ZV id G k L (vZ b (x,id)).1 (λy J=>hL y (List.mem_cons_of_mem _ J)) (λy=>by
   rw[d];split
   ·exact Or.inr rfl
   ·exact hb y)
  unfold Jq at H ⊢;rw[List.foldl_cons,H,d];obtain⟨I,N⟩:=k;by_cases e:N=id<;>by_cases e2:I=x<;>by_cases e3:I∈L<;>simp[e,e2,e3]
  all_goals (simp_all)
theorem Ps (b:Jb) (n d x:Int):((jF b n d x).2=0->(thJ (jF b n d x).1.holds).Perm (x::thJ b.holds))/\((jF b n d x).2≠0->(jF b n d x).1=b):=by
 unfold jF;split
 ·exact⟨λe=>by simp at e,λ_=>rfl⟩
 ·split
  ·exact⟨λe=>by simp at e,λ_=>rfl⟩
  ·split
   ·exact⟨λe=>by simp at e,λ_=>rfl⟩
   ·refine⟨λ_=> ?_,λe=>absurd rfl e⟩;simp only;unfold uk thJ;rw[List.map_append,List.map_cons];refine(List.perm_middle).trans (List.Perm.cons _ ?_);rw[<-List.map_append,List.take_append_drop]
theorem Pt (b:Jb) (n d x:Int):(vf (jF b n d x).2=0↔(jF b n d x).2=0)/\0<=vf (jF b n d x).2/\vf (jF b n d x).2<=8:=by
 unfold jF
 repeat' split
 all_goals (simp[vf])
def Aj (s:RmS):Prop:= ∀x sb,qh s.tab.u x=some sb->sb.2.1=true-> ∃l,qh s.lanes x=some l/\l.gone=false/\l.wanted=true
theorem mem_prR {d:Sb->Bool} {u:List (Int×Sb)} {x:Int}:x∈prR d u↔x∈subIds/\ ∃sb,qh u x=some sb/\d sb=true:=by
 unfold prR;rw[List.mem_filter];refine and_congr Iff.rfl ?_;cases qh u x with
 | none=>simp
 | some sb=>simp
theorem subIds_iff {x:Int}:x∈subIds↔0<=x/\x<6:=by
 unfold subIds;simp only[List.mem_cons,List.not_mem_nil,or_false];omega
theorem qS.accept (h:OwO s) (ai:Aj s) (o:Og) (p:Pk):OwO (s.accept o p):=by
 unfold RmS.accept;cases ht:qh s.strs o with
 | none=>exact h
 | some t=>
  simp only;have ag: ∀x,qh s.book (x,(s.pks.length:Int))=none:=λx=>by
   cases O:qh s.book (x,(s.pks.length:Int)) with
   | none=>rfl
   | some v=>have:=(h.bel x _ v O).2;omega
  have ah: ∀x∈prR (j5 o.1) s.tab.u,0<=x/\x<6:=λx d=>subIds_iff.1 (mem_prR.1 d).1
  have J:=λk=>ZV (s.pks.length:Int) τ k _ s.book ah (λx=>Or.inl (ag x))
  have ac:qS (λ_ i=>i=(s.pks.length:Int)) {s with pks:=s.pks++[⟨o,vP t p.sq,p⟩],book:=Jq s.book (prR (j5 o.1) s.tab.u) s.pks.length}:=by
   refine⟨h.org,h.nd,h.dis,λaa u ak i hi=> ?_,h.sub,λx l U i hi=> ?_,λx i d=> ?_,λx i v N=> ?_⟩
   ·have:=h.few aa u ak i hi;simp only[List.length_append,List.length_cons,List.length_nil];omega
   ·obtain⟨a,b,_⟩:=h.owd x l U i hi;have ar:=(h.bel x i 0 a).2;refine⟨?_,b,λe=>by omega⟩;simp only;rw[J,if_neg (λc=>by have:=c.1;simp only at this;omega)];exact a
   ·simp only at d ⊢;rw[J] at d;split at d
    ·rename_i H;obtain⟨ae,af⟩:=H;simp only at ae af;obtain⟨ao,al,Y⟩:=(mem_prR.1 af).2;unfold j5 at Y;rw[Bool.and_eq_true] at Y;obtain⟨l,a,b,c⟩:=ai x ao al Y.1;exact⟨l,a,b,c,Or.inr (Or.inr ae)⟩
    ·obtain⟨l,a,b,c,G⟩:=h.src x i d;exact⟨l,a,b,c,G.elim Or.inl λG=>G.elim (λG=>Or.inr (Or.inl G)) False.elim⟩
   ·simp only at N ⊢;rw[J] at N;simp only[List.length_append,List.length_cons,List.length_nil];split at N
    ·rename_i H;have:=H.1;simp only at this;omega
    ·have:=h.bel x i v N;omega
  have aj: ¬xT s.strs (s.pks.length:Int):=λ⟨aa,u,a,b⟩=>by have:=(h.few aa u a _ b).2;omega
  have ad: ∀x l,qh s.lanes x=some l->(s.pks.length:Int)∉xJ l:=λx l U hi=>by
   have:=(h.bel x _ 0 (h.owd x l U _ hi).1).2;omega
  obtain⟨am,an⟩:=Ps t.buf (vP t p.sq) s.clock s.pks.length;obtain⟨ab,ap,aq⟩:=Pt t.buf (vP t p.sq) s.clock s.pks.length;by_cases hf:vf (jF t.buf (vP t p.sq) s.clock s.pks.length).2=0
  ·rw[if_pos hf];exact((ac.grow (t':=Yo t p s.clock s.pks.length) ht (s.pks.length:Int) (am (ab.1 hf)) (by simp only[List.length_append,List.length_cons,List.length_nil];omega) aj ad).fin (λy i I _=>I.2 I.1)).same rfl rfl rfl rfl
  ·rw[if_neg hf];have O:(Yo t p s.clock s.pks.length).buf.holds=t.buf.holds:=by
    unfold Yo;simp only;rw[an (λe=>hf (ab.2 e))]
   refine((((ac.keep (t':=Yo t p s.clock s.pks.length) ht O).settled (prR (j5 o.1) s.tab.u) (s.pks.length:Int) (vf (jF t.buf (vP t p.sq) s.clock s.pks.length).2) τ (λx d=> ?_) ad)).fin (λy i I _=>I.2 I.1)).same rfl rfl rfl rfl;simp only at d;rw[J] at d;split at d
   ·rename_i H;exact H.2
   ·rw[ag x] at d;cases d
theorem qS.tell1 (h:qS P s) (x:Int):qS P (s.tell1 x):=by
 unfold RmS.tell1;cases qh s.tab.u x with
 | none=>exact h
 | some sb=>
  simp only;split
  ·cases qh s.lanes x with
   | none=>exact h
   | some l=>
    simp only;split
    ·cases ht:qh s.strs (sb.2.2,l.cur) with
     | none=>exact h
     | some t=>exact h.keep ht rfl
    ·exact h
  ·exact h
theorem kY {α:Type} {Q:RmS->Prop} {f:RmS->α->RmS} (d: ∀s x,Q s->Q (f s x)): ∀(L:List α) (s:RmS),Q s->Q (L.foldl f s)
 | [],_,h=>h
 | x::L,s,h=>kY d L (f s x) (d s x h)
theorem qS.tell (h:qS P s) (b:List Int):qS P (s.tell b):=by
 unfold RmS.tell;split
 ·refine kY (λs x h=> ?_) _ _ (h.same rfl rfl rfl rfl);unfold RmS.tellS;exact kY (Q:=qS P) (λs x h=>qS.tell1 h x) _ _ h
 ·exact h.same rfl rfl rfl rfl
theorem qS.read (h:OwO s) (G:Aj s):OwO s.read:=by
 unfold RmS.read;cases s.queue with
 | nil=>exact h
 | cons b q=>
  simp only;have d:OwO {s with queue:=q}:=qS.same h rfl rfl rfl rfl;split
  ·exact qS.tell d b
  ·unfold RmS.media;split
   ·cases qh s.tab.o (xk b).1.sc with
    | none=>exact qS.same d rfl rfl rfl rfl
    | some o=>exact qS.accept d G o _
   ·exact qS.same d rfl rfl rfl rfl
theorem qS.tick (h:qS P s):qS P s.tick.1:=by
 unfold RmS.tick;split
 ·exact h
 ·refine kY (λs o h=> ?_) _ _ (h.same rfl rfl rfl rfl);unfold RmS.tick1;cases ht:qh s.strs o with
  | none=>exact h
  | some t=>
   simp only;split
   ·exact(h.keep (t':={t with asks:=(vF s.cfg.space s.cfg.retry t.asks (s.wants o) s.clock).1}) ht rfl).same rfl rfl rfl rfl
   ·exact h.keep ht rfl
theorem qS.publish (h:qS P s) (p:Int) (N:0<=p/\p<3) (d: ∀k,qh s.strs (p,k)=none):qS P {s with strs:=qw (qw (qw s.strs (p,0) (kG s.cfg)) (p,1) (kG s.cfg)) (p,2) (kG s.cfg)}:=by
 have G: ∀k,0<=k/\k<3->(p,k)∈orgs:=λk J=>by
  have H:p=0∨p=1∨p=2:=by omega
  have I:k=0∨k=1∨k=2:=by omega
  rcases H with rfl | rfl | rfl<;>rcases I with rfl | rfl | rfl<;>decide
 refine(((h.strNew (G 0 ζ) (d 0) (t':=kG s.cfg) rfl).strNew (G 1 ζ) ?_ (t':=kG s.cfg) rfl).strNew (G 2 ζ) ?_ (t':=kG s.cfg) rfl).same rfl rfl rfl rfl
 ·show qh (qw s.strs (p,0) _) _=none;rw[vI _ _ (λe=>by have:=congrArg Prod.snd e;simp at this)];exact d 1
 ·show qh (qw (qw s.strs (p,0) _) (p,1) _) _=none;rw[vI _ _ (λe=>by have:=congrArg Prod.snd e;simp at this),vI _ _ (λe=>by have:=congrArg Prod.snd e;simp at this)];exact d 2
theorem qS.join (h:qS P s) {x:Int} (J:x∈subIds) (G:qh s.lanes x=none) {l:LnS} (H:1<=l.room) (hi:xJ l=[]):qS P {s with lanes:=qw s.lanes x l}:=
 h.endL x (L:=qw s.lanes x l) (b:=s.book) (λy N=>vI _ _ N) (λm d=>by
  rw[xC] at d;injection d with e
  subst e;exact⟨J,H,hi⟩) (λ_ _ _=>rfl) (λi e=>by
  obtain⟨O,a,_⟩:=h.src x i e;rw[G] at a
  cases a) (λi v I=>⟨v,I⟩)
theorem qS.leave (h:qS P s) (x:Int):qS P {s with lanes:=Ys s.lanes x,book:=vQ s.book x 7}:=
 h.endL x (L:=Ys s.lanes x) (b:=vQ s.book x 7) (λy d=>by rw[kM,if_neg d]) (λm G=>by
  rw[kM,if_pos rfl] at G
  cases G) (λy i d=>XL _ i 7 d) (λi=>V7 _ x i ζ) (λi v H=>V3 _ x i 7 v H)
theorem Xx (l:LnS) (k:Int):xJ (jA l k).1=xJ l/\(jA l k).1.room=l.room/\(jA l k).1.gone=l.gone/\(l.wanted=true->(jA l k).1.wanted=true):=by
 unfold jA;split
 ·exact⟨rfl,rfl,rfl,λe=>e⟩
 ·split
  ·exact⟨rfl,rfl,rfl,λe=>e⟩
  ·exact⟨rfl,rfl,rfl,λ_=>rfl⟩
theorem qS.wantL (h:qS P s) {x:Int} {l:LnS} (J:qh s.lanes x=some l) (k:Int):qS P {s with lanes:=qw s.lanes x (jA l k).1}:=by
 obtain⟨d,G,H,I⟩:=Xx l k;exact h.lane J [] 1 ζ (by rw[d,List.append_nil]) G H I
end
theorem vM {K V:Type} [DecidableEq K] {k:K} (v:V): ∀{m:List (K×V)},(qh m k).isSome=true->(qw m k v).length=m.length
 | [],h=>by simp[qh] at h
 | (a,b)::l,h=>by
  unfold qw;unfold qh at h;by_cases e:k=a
  ·rw[if_pos e];rfl
  ·rw[if_neg e] at h ⊢;rw[List.length_cons,vM v h,List.length_cons]
theorem QJ {K V:Type} [DecidableEq K] (k:K) (v:V): ∀(m:List (K×V)),(qw m k v).length<=m.length+1
 | []=>by simp[qw]
 | (a,b)::l=>by
  unfold qw;split
  ·simp
  ·have:=QJ k v l;simp only[List.length_cons];omega
theorem xl {K V α:Type} [DecidableEq K] (g:V->α) {m:List (K×V)} {k:K} {u v:V} (h:qh m k=some u) (e:g v=g u) (x:K):(qh (qw m k v) x).map g=(qh m x).map g:=by
 rw[qy];by_cases c:x=k
 ·rw[if_pos c,c,h];exact congrArg some e
 ·rw[if_neg c]
theorem zr (b:Bk) (x id f:Int):(jn b x id f).length=b.length:=by
 unfold jn zg
 repeat' split
 all_goals first | rfl | exact vM _ (by assumption)
theorem Qf (x f:Int): ∀(E:List Int) (b:Bk),(E.foldl (λb id=>jn b x id f) b).length=b.length
 | [],_=>rfl
 | id::E,b=>by rw[List.foldl_cons,Qf x f E,zr]
theorem vX (id f:Int): ∀(E:List Int) (b:Bk),(xF b E id f).length=b.length
 | [],_=>rfl
 | x::E,b=>by
  have:=vX id f E (jn b x id f);unfold xF at this ⊢;rw[List.foldl_cons,this,zr]
structure Loc (s s':RmS):Prop where
 cfg:s'.cfg=s.cfg
 closed:s'.closed=s.closed
 ret:s'.ret=s.ret
 clock:s'.clock=s.clock
 queue:s'.queue=s.queue
 tab:s'.tab=s.tab
 pks:s'.pks=s.pks
 reqs:s'.reqs=s.reqs
 cnt:s'.cnt=s.cnt
 book:s'.book.length=s.book.length
 lanes: ∀x,(qh s'.lanes x).map (λl=>(l.gone,l.wanted,l.W))=(qh s.lanes x).map λl=>(l.gone,l.wanted,l.W)
 strs: ∀o,(qh s'.strs o).map (λt=>(t.any,t.great,t.asks))=(qh s.strs o).map λt=>(t.any,t.great,t.asks)
theorem Loc.refl (s:RmS):Loc s s:=⟨rfl,rfl,rfl,rfl,rfl,rfl,rfl,rfl,rfl,rfl,λ_=>rfl,λ_=>rfl⟩
theorem Loc.trans {s s' s'':RmS} (h:Loc s s') (k:Loc s' s''):Loc s s'':=
 ⟨k.cfg.trans h.cfg,k.closed.trans h.closed,k.ret.trans h.ret,k.clock.trans h.clock,k.queue.trans h.queue,k.tab.trans h.tab,k.pks.trans h.pks,k.reqs.trans h.reqs,k.cnt.trans h.cnt,k.book.trans h.book,λx=>(k.lanes x).trans (h.lanes x),λo=>(k.strs o).trans (h.strs o)⟩
theorem yV {α:Type} {f:RmS->α->RmS} (d: ∀s x,Loc s (f s x)): ∀(L:List α) (s:RmS),Loc s (L.foldl f s)
 | [],s=>Loc.refl s
 | x::L,s=>(d s x).trans (yV d L (f s x))
theorem Pc (s:RmS) (x:Int):Loc s (s.tell1 x):=by
 unfold RmS.tell1;cases qh s.tab.u x with
 | none=>exact Loc.refl s
 | some sb=>
  simp only;split
  ·cases qh s.lanes x with
   | none=>exact Loc.refl s
   | some l=>
    simp only;split
    ·cases ht:qh s.strs (sb.2.2,l.cur) with
     | none=>exact Loc.refl s
     | some t=>exact⟨rfl,rfl,rfl,rfl,rfl,rfl,rfl,rfl,rfl,rfl,λ_=>rfl,xl _ ht rfl⟩
    ·exact Loc.refl s
  ·exact Loc.refl s
theorem QB (L:List Int) (s:RmS):Loc s (L.foldl RmS.tellS s):=yV (λs _=>yV Pc _ s) L s
theorem ZK (l:LnS) (d:ItS):((jL l d).1.gone,(jL l d).1.wanted,(jL l d).1.W)=(l.gone,l.wanted,l.W):=by
 unfold jL yH
 repeat' split
 all_goals rfl
theorem BV (d:ItS) (s:RmS) (x:Int):Loc s (s.put1 d x):=by
 unfold RmS.put1;split
 ·cases hl:qh s.lanes x with
  | none=>exact Loc.refl s
  | some l=>
   simp only;split
   ·exact⟨rfl,rfl,rfl,rfl,rfl,rfl,rfl,rfl,rfl,zr _ _ _ _,xl _ hl (ZK l d),λ_=>rfl⟩
   ·exact⟨rfl,rfl,rfl,rfl,rfl,rfl,rfl,rfl,rfl,rfl,xl _ hl (ZK l d),λ_=>rfl⟩
 ·exact Loc.refl s
theorem yT (s:RmS):Loc s s.order:=by
 unfold RmS.order;cases s.ready with
 | none=>exact Loc.refl s
 | some o=>
  simp only;cases ht:qh s.strs o with
  | none=>exact Loc.refl s
  | some t=>
   have h:Loc s {s with strs:=qw s.strs o {t with buf:=(zV t.buf s.clock).1}}:=⟨rfl,rfl,rfl,rfl,rfl,rfl,rfl,rfl,rfl,rfl,λ_=>rfl,xl _ ht rfl⟩;exact h.trans (yV (BV _) _ _)
theorem zO (s:RmS) (x:Int):Loc s (s.choose x):=by
 unfold RmS.choose;cases hl:qh s.lanes x with
 | none=>exact Loc.refl s
 | some l=>
  refine⟨rfl,rfl,rfl,rfl,rfl,rfl,rfl,rfl,rfl, ?_,xl _ hl ?_,λ_=>rfl⟩
  ·simp only;split
   ·exact zr _ _ _ _
   ·rfl
  ·rcases zP l with ⟨_,e⟩ | ⟨_,x,A,_,_,e⟩<;>rw[e]
theorem zm (s:RmS) (x:Int):Loc s (s.rewrite x):=by
 unfold RmS.rewrite;cases hl:qh s.lanes x with
 | none=>exact Loc.refl s
 | some l=>
  refine⟨rfl,rfl,rfl,rfl,rfl,rfl,rfl,rfl,rfl, ?_,xl _ hl ?_,λ_=>rfl⟩
  ·simp only;split
   ·exact zr _ _ _ _
   ·rfl
  ·rcases zU l with ⟨_,e⟩ | ⟨x,f,B,_,e⟩<;>rw[e]
theorem Wc (s:RmS) (w:Og):Loc s (s.drainL w):=by
 unfold RmS.drainL;cases hl:qh s.lanes w.2 with
 | none=>exact Loc.refl s
 | some l=>exact⟨rfl,rfl,rfl,rfl,rfl,rfl,rfl,rfl,rfl,Qf _ _ _ _,xl _ hl rfl,λ_=>rfl⟩
theorem Wb (s:RmS) (o:Og):Loc s (s.drainO o):=by
 unfold RmS.drainO;cases ht:qh s.strs o with
 | none=>exact Loc.refl s
 | some t=>
  have h:Loc s {s with strs:=qw s.strs o {t with buf:=vV t.buf}}:=⟨rfl,rfl,rfl,rfl,rfl,rfl,rfl,rfl,rfl,rfl,λ_=>rfl,xl _ ht rfl⟩;exact h.trans (yV (f:=RmS.drain1) (λs i=>⟨rfl,rfl,rfl,rfl,rfl,rfl,rfl,rfl,rfl,(vX i 8 subIds s.book:(xF s.book subIds i 8).length=s.book.length),λ_=>rfl,λ_=>rfl⟩) _ _)
theorem uz {α β:Type} {f:α->β} {a:Option α} {b:Option α} (h:a.map f=b.map f) {x:α} (d:a=some x): ∃y,b=some y/\f x=f y:=by
 rw[d] at h;cases b with
 | none=>cases h
 | some y=>exact⟨y,rfl,by injection h⟩
theorem vz {α β:Type} {f:α->β} {a:Option α} {b:Option α} (h:a.map f=b.map f):a.isSome=b.isSome:=by
 have:=congrArg Option.isSome h
 simpa using this
structure GG (s:RmS):Prop where
 keys: ∀x,(qh s.tab.u x).isSome=true->0<=x/\x<6
 lane: ∀x,(qh s.tab.u x).isSome=(qh s.lanes x).isSome
 act:Aj s
 pub: ∀x sb,qh s.tab.u x=some sb->sb.2.1=true->(qh s.tab.s (sb.2.2,0)).isSome=true
 str: ∀p n,jc n=true->(qh s.strs (p,n)).isSome=(qh s.tab.s (p,0)).isSome
 org: ∀x o,qh s.tab.o x=some o->(qh s.strs o).isSome=true
 src: ∀o v,qh s.tab.s o=some v->0<=v/\v<=4294967295
section
variable {s s':RmS}
theorem GG.loc (h:GG s) (d:s'.tab=s.tab) (I: ∀x,(qh s'.lanes x).map (λl=>(l.gone,l.wanted))=(qh s.lanes x).map λl=>(l.gone,l.wanted)) (J: ∀o,(qh s'.strs o).isSome=(qh s.strs o).isSome):GG s':=by
 refine⟨by rw[d];exact h.keys,λx=>by rw[d,vz (I x)];exact h.lane x,λx U G N=> ?_,by rw[d];exact h.pub,λp n O=>by rw[d,J];exact h.str p n O,λx o H=>by rw[d] at H;rw[J];exact h.org x o H,by rw[d];exact h.src⟩;rw[d] at G;obtain⟨l,a,b,c⟩:=h.act x U G N;obtain⟨l',a',e⟩:=uz (I x).symm a;simp only[Prod.mk.injEq] at e;exact⟨l',a',by rw[<-e.1];exact b,by rw[<-e.2];exact c⟩
theorem Loc.tb (h:Loc s s') (k:GG s):GG s':=
 k.loc h.tab (λx=>by have:=congrArg (Option.map λp:Bool×Bool×List (Int×List Int)=>(p.1,p.2.1)) (h.lanes x);rw[Option.map_map,Option.map_map] at this;exact this) (λo=>vz (h.strs o))
structure JY (n:Nat) (s:RmS):Prop where
 cfg:zR s.cfg=true
 malf:0<=s.cnt.malf/\s.cnt.malf<=n
 told:0<=s.cnt.told/\s.cnt.told<=n
 strange:0<=s.cnt.strange/\s.cnt.strange<=n
 acc:s.cnt.acc=s.pks.length
 lost:0<=s.cnt.lost/\s.cnt.lost<=9* n
 pks:s.pks.length<=n
 clock:0<=s.clock/\s.clock<=n
 great: ∀o t,qh s.strs o=some t->t.any=true->65536<=t.great/\t.great<=65536* (n+2)
 asks: ∀o t,qh s.strs o=some t->0<=t.asks.tries/\t.asks.tries<=9* n/\0<=t.asks.last/\t.asks.last<=n
 queue: ∀b∈s.queue,Byt b/\b.length<=400
 fit:(s.queue.length:Int)<=s.cfg.room
 pkok: ∀a∈s.pks,wP a.pk/\gu a.pk/\jM a.pk=true
 few:s.tab.u.length<=n
 wr: ∀x l,qh s.lanes x=some l->l.W.length<=n
 book:s.book.length<=6* n
 reqs:s.reqs.length<=9* n
theorem JY.up {n:Nat} (h:JY n s):JY (n+1) s:=by
 obtain⟨d,ac,ad,ae,O,af,ag,ah,U,G,H,I,J,Y,N,aa,ab⟩:=h;exact⟨d,τ,τ,τ,O,τ,τ,τ,λo t a b=>by have:=U o t a b;omega,λo t a=>by have:=G o t a;omega,H,I,J,τ,λx l a=>by have:=N x l a;omega,τ,τ⟩
theorem Loc.num (h:Loc s s') {n:Nat} (k:JY n s):JY n s':=by
 obtain⟨d,aa,ab,ac,ad,ae,af,ag,ah,G,H,I,J,N,O,U,Y⟩:=k;refine⟨by rw[h.cfg];exact d,by rw[h.cnt];exact aa,by rw[h.cnt];exact ab,by rw[h.cnt];exact ac,by rw[h.cnt,h.pks];exact ad,by rw[h.cnt];exact ae,by rw[h.pks];exact af,by rw[h.clock];exact ag,λo t a b=> ?_,λo t a=> ?_,by rw[h.queue];exact H,by rw[h.queue,h.cfg];exact I,by rw[h.pks];exact J,by rw[h.tab];exact N,λx l a=> ?_,by rw[h.book];exact U,by rw[h.reqs];exact Y⟩
 ·obtain⟨t',e,f⟩:=uz (h.strs o) a;simp only[Prod.mk.injEq] at f;rw[f.2.1];exact ah o t' e (by rw[<-f.1];exact b)
 ·obtain⟨t',e,f⟩:=uz (h.strs o) a;simp only[Prod.mk.injEq] at f;rw[f.2.2];exact G o t' e
 ·obtain⟨l',e,f⟩:=uz (h.lanes x) a;simp only[Prod.mk.injEq] at f;rw[f.2.2];exact O x l' e
end
end Go.Proofs.YtlmllmonabafjaaGreatDoor
