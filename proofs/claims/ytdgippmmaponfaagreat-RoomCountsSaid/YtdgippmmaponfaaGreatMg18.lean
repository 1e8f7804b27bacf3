/- Contracts of the functions that the law reaches, and plain laws; no conditions but those written at each. -/
import Derived.Test.YtdgippmmaponfaaGreatMg17
namespace Go.Proofs.YtdgippmmaponfaaGreat
open Go.Value renaming bool->μ,slice->δ,pointer->π,agg->θ
open Go.IntKind renaming i64->ι,u8->υ,u16->φ,u32->ω,i32->χ,u64->ψ
open _root_.Go.Proofs.Tryz
set_option linter.unusedSimpArgs false
set_option maxHeartbeats 8000000
set_option linter.unusedVariables false
open Go.RowKit
set_option maxRecDepth 100000
theorem Ub (n:Int) (w:World):Calls prog 75 #[ι n] w λe w'=>e= .returned (μ (jj n))/\w'=w:=by
 have G:Hid (jj n=decide (0<=n/\n<3)):=κ rfl;by_cases h1:0<=n
 ·by_cases h2:n<3
  ·have d:jj n=true:=by rw[G.o];simp[h1,h2]
   rw[d];clear d G
   go_enter func75,ntmps75
   go_wp2;go_ret;exact⟨rfl,rfl⟩
  ·have d:jj n=false:=by rw[G.o];simp[h2]
   rw[d];clear d G
   go_enter func75,ntmps75
   go_wp2;go_ret;exact⟨rfl,rfl⟩
 ·have d:jj n=false:=by rw[G.o];simp[h1]
  rw[d];clear d G
  go_enter func75,ntmps75
  go_wp2;go_ret;exact⟨rfl,rfl⟩
def Zy (s:RmS):Prop:= ∀x sb,qh s.tab.u x=some sb->sb.2.1=true-> ∀n,jj n=true->(qh s.strs (sb.2.2,n)).isSome=true
structure zQ (s s':RmS):Prop where
 tab:s'.tab=s.tab
 lanes:s'.lanes=s.lanes
 strs: ∀x,(qh s'.strs x).isSome=(qh s.strs x).isSome
theorem zQ.refl (s:RmS):zQ s s:=⟨rfl,rfl,λ_=>rfl⟩
theorem zQ.trans {a b c:RmS} (h:zQ a b) (k:zQ b c):zQ a c:=⟨k.tab.trans h.tab,k.lanes.trans h.lanes,λx=>(k.strs x).trans (h.strs x)⟩
theorem Um (s:RmS) (x:Int):zQ s (s.tell1 x):=by
 unfold RmS.tell1;cases qh s.tab.u x with
 | none=>exact zQ.refl s
 | some sb=>
  simp only;split
  ·cases qh s.lanes x with
   | none=>exact zQ.refl s
   | some l=>
    simp only;split
    ·cases ht:qh s.strs (sb.2.2,l.cur) with
     | none=>exact zQ.refl s
     | some t=>
      refine⟨rfl,rfl,λo=> ?_⟩;simp only[qF];split
      ·rename_i e;rw[e,ht];rfl
      ·rfl
    ·exact zQ.refl s
  ·exact zQ.refl s
theorem QV (L:List Int): ∀s:RmS,zQ s (L.foldl RmS.tell1 s):=by
 induction L with
 | nil=>exact zQ.refl
 | cons x L ih=>exact λs=>(Um s x).trans (ih _)
theorem Ul (L:List Int): ∀s:RmS,zQ s (L.foldl RmS.tellS s):=by
 induction L with
 | nil=>exact zQ.refl
 | cons x L ih=>exact λs=>(QV _ s).trans (ih _)
theorem zQ.subs {s s':RmS} (h:zQ s s') (k:zc s):zc s':=⟨by rw[h.tab];exact k.keys,by rw[h.tab,h.lanes];exact k.lane,by rw[h.tab];exact k.few⟩
theorem zQ.pub {s s':RmS} (h:zQ s s') (k:Zy s):Zy s':=λx I d G n H=>by
 rw[h.tab] at d;rw[h.strs];exact k x I d G n H
section
variable {w0 w w':World} {k:RmK} {s:RmS} {F F':List Nat}
theorem qI.noU (h:qI w0 w k s F):NoU w k.R:=by
 obtain⟨T,vp,M,x⟩:=h;obtain⟨xs,d,_⟩:=(x.all .pks).1.row;obtain⟨N,G,_⟩:=(x.all .reqs).1.row;obtain⟨J,c1,rfl⟩:=xl d;obtain⟨o2,c2,rfl⟩:=xl G;intro o I n H;rw[cell_of_row w k.R o _ _ _ x.blk];unfold zH
 match o with
 | 0 | 1 | 2 | 3 | 4 | 5 | 6 | 7 | 8 | 9 | 10 | 11 | 12 | 13 | 14 | 15 | 16 | 17 | 18 | 19 | 20=>simp;try (intro e;exact absurd e.symm H)
 | n+21=>simp
theorem Mt (h:qI w0 w k s F) (bz:zc s) (ao:Zy s) (b:List Int) (v:Value) (bK:SlI .u8 w v b) (d:Byt b) (cq:b.length<=1000000) (cn:0<=s.cnt.malf/\s.cnt.malf<=1000000000/\0<=s.cnt.told/\s.cnt.told<=1000000000):
  Calls prog 135 #[γ k.R,v] w λe w'=>e= .returned (.tuple #[])/\qI w0 w' k (s.tell b) F/\qw F w w':=by
 have av:=κ h;have ax:=κ (Dr b v w bK d cq);have am:=κ (GK (b:=b) d);have aL:=κ bz;have bY:=κ ao;obtain⟨cS,cT,t0,t1⟩:=cn;obtain⟨bo,aV⟩:=ν ((zx b).2);have bf:=κ aV;rw[aV] at ax am;obtain⟨cY,cJ,rfl,_⟩:=bK;clear h bz ao aV d;by_cases he:bo=0
 ·subst he;have aj:Hid (s.tell b=(xU (zx b).1).foldl RmS.tellS {s with cnt:={s.cnt with told:=s.cnt.told+1}}):=κ (by unfold RmS.tell;rw[if_pos bf.o]);obtain⟨bE,bt⟩:=ν ((zx b).1);rw[bt] at ax am aj;clear bt;obtain⟨bp,bq⟩:=am.o rfl;have bU:=κ bp;have bV:=κ bq;clear bp bq am
  go_enter func135,ntmps135
  go_upto_region 3 with (go_at_call 174;(go_call ax.o as e w1 ⟨bM,rfl,s1,O⟩;have bl:=κ s1;have ci:=κ O;have ab:=κ (av.o.on O);have aC:=κ (av.o.stay O);clear s1 O))
  obtain⟨vp,ct,aa⟩:=ab.o.blk;have cH:=β19 aa;have cL:=qd aa 19;clear aa;have ac:=κ (ab.o.cell 19 (ι (s.cnt.told+1)) (s':={s with cnt:={s.cnt with told:=s.cnt.told+1}}) (λ_ _=>rfl) ⟨rfl,rfl,rfl,rfl,rfl,rfl,rfl,rfl,rfl⟩);have aS:=κ (PC bl.o (qg.set (S:=λb=>b=k.R) (qg.refl _ _) (p:=⟨k.R,19,none⟩) rfl (ι (s.cnt.told+1))) (λb d=>by rw[d];exact ab.o.noU));have bn:=κ (aC.o.trans ac.o.2);obtain⟨W2,br⟩:=ν (w1.setCell ⟨k.R,19,none⟩ (ι (s.cnt.told+1)));rw[br] at ac aS bn;obtain⟨st,aH⟩: ∃st:RmS,{s with cnt:={s.cnt with told:=s.cnt.told+1}}=st:=⟨_,rfl⟩;have aQ:=κ ac.o.1;rw[aH] at aQ aj;have cd:Hid (zc st):=κ (by rw[<-aH];exact⟨aL.o.keys,aL.o.lane,aL.o.few⟩);have bZ:Hid (Zy st):=κ (by rw[<-aH];exact bY.o);have bT:=κ (Wo bE bM W2 aS.o (by have:=bU.o;omega) bV.o);generalize xU bE=A at *;clear aH ac aS ab aC bl ci
  go_wp2_with (first | ((try rw[br]);(go_at_call 175;(go_call bT.o as e cu ⟨da,rfl,⟨Y,bH⟩,aY⟩;obtain⟨cz,db,dg,bO⟩:=aQ.o;obtain⟨cU,cap,au,rfl,cQ,aq,bw⟩:=bO.ints aY Y bH;have cb:=κ bw;have bR:=κ aq.at;have cj:=κ (bn.o.trans (aQ.o.stay aY));clear Y bH aY bO aq bw))))
  go_loopw [41] (λag wr=> ∃j:Nat,j<=A.length/\ag= ι j/\qI w0 wr k ((A.take j).foldl RmS.tellS st) (au++F)/\qw (au++F) cu wr) (λag _=>A.length-(intOf ag).toNat)
  case atStart=>exact⟨0,τ,rfl,bR.o,qw.refl _ _⟩
  case round=>
   obtain⟨j,cP,rfl,ap,J⟩:=hrel;have aw:=κ ap;have aP:=κ J;clear ap J;by_cases hlt:j<A.length
   ·have cp:(j:Int)<(A.length:Int):=by omega
    obtain⟨cE,cW,rfl,cN⟩:=cb.o wr (λb d=>aP.o.2 b (by simp[d])) j hlt;have cg:Hid (A.take (j+1)=A.take j++[A[j]]):=κ (by rw[List.take_add_one,List.getElem?_eq_getElem hlt];rfl);generalize A[j]=src at *;have bm:=κ (Ul (A.take j) st);generalize bB:(A.take j).foldl RmS.tellS st=sj at *;have ce:=κ bB;clear bB;obtain⟨cC,de,dj,bc⟩:=aw.o;have aN:=κ (bm.o.subs cd.o);have bi:=κ (FO bc.tab src aN.o.keys aN.o.few);obtain⟨L,aD⟩:=ν (prR (zV src) sj.tab.u);have bX:Hid (∀x∈L,∃bb l,qh sj.tab.u x=some bb/\qh sj.lanes x=some l):=κ (λx bC=>by rw[<-aD] at bC;exact Vq aN.o bC);have bW:Hid (sj.tellS src=L.foldl RmS.tell1 sj):=κ (by unfold RmS.tellS;rw[aD]);rw[aD] at bi;have cl:=β11 bc.blk;clear aD bc
    go_wp2_with (go_at_call 176;(go_call bi.o as e w4 ⟨⟨vb,rfl,bJ,bI⟩,aZ⟩;obtain⟨cA,dc,dh,aq⟩:=aw.o;obtain⟨cV,cI,bd,rfl,cR,bP,bx⟩:=aq.ints aZ bJ bI;have cc:=κ bx;have bS:=κ bP.at;have ck:=κ (aP.o.trans (aw.o.stay aZ));clear bJ bI aZ aq bP bx))
    go_loopw [52] (λag wr=> ∃i:Nat,i<=L.length/\ag= ι i/\qI w0 wr k ((L.take i).foldl RmS.tell1 sj) (bd++(au++F))/\qw (bd++(au++F)) w4 wr) (λag _=>L.length-(intOf ag).toNat)
    case atStart=>exact⟨0,τ,rfl,bS.o,qw.refl _ _⟩
    case round=>
     obtain⟨i,hi,rfl,ap,J⟩:=hrel;have M:=κ ap;have ah:=κ J;clear ap J;by_cases hlt2:i<L.length
     ·have co:(i:Int)<(L.length:Int):=by omega
      obtain⟨cF,cX,rfl,cO⟩:=cc.o wr (λb d=>ah.o.2 b (by simp[d])) i hlt2;have aA:Hid (L.take (i+1)=L.take i++[L[i]]):=κ (by rw[List.take_add_one,List.getElem?_eq_getElem hlt2];rfl);obtain⟨bb,l,aG,aF⟩:=bX.o _ (List.getElem_mem hlt2);generalize L[i]=x at *;have aT:=κ (QV (L.take i) sj);generalize bA:(L.take i).foldl RmS.tell1 sj=si at *;have ay:=κ bA;clear bA;rw[<-aT.o.tab] at aG;rw[<-aT.o.lanes] at aF;obtain⟨cB,dd,di,ar⟩:=M.o;have N:=κ ar;have ca:=κ (aT.o.pub (bm.o.pub bZ.o));obtain⟨cr,bv,bs⟩:=ar.laneAt aF;have ae:=κ (LH ar.tab x);have bg:=κ bs;have bh:=κ aF;have aM:=κ aG;rw[aG] at ae;simp only[Option.getD_some] at ae;have cl:=β11 ar.blk;obtain⟨s1,s2,Y⟩:=bb;simp only at ae
      have aK:Hid (∀w',qa wr w'->(Instr.lookup 83 (.map (some k.ML)) (ι x) false).run prog w'= .ok (γ cr) w'):=κ (λw' m=>by
       have:=xq (N.o.lnm.more m) x false;rw[bv] at this
       exact this)
      clear ar aF bs aG bv;cases s2 with
      | false=>
       have ad:Hid (si.tell1 x=si):=κ (by unfold RmS.tell1;rw[aM.o];rfl)
       go_wp2_with (go_at_call 91;(go_call ae.o as e w5 ⟨rfl,G⟩;have H:=κ G;clear G))
       go_roundw
       case rel=>exact⟨i+1,τ,by go_num,by rw[aA.o,List.foldl_append,ay.o];show qI w0 _ k (si.tell1 x) _;rw[ad.o];exact M.o.on H.o,ah.o.trans (M.o.stay H.o)⟩
       case measure=>simp[intOf];omega
      | true=>
       obtain⟨bG,aX⟩:=ν (l.wanted);obtain⟨I,aW⟩:=ν (l.cur);obtain⟨bF,bu⟩:=ν (l.tgt);have az:=κ (λw m=>Xb (bg.o.on (w':=w) m));rw[aX,aW,bu] at az;have ad:Hid (si.tell1 x=if bG&&jj I then (match qh si.strs (Y,I) with | none=>si | some t=>{si with strs:=qx si.strs (Y,I) {t with askedOf:=true}}) else si):=κ (by unfold RmS.tell1;rw[aM.o];simp only[bh.o,if_true];rw[aX,aW];rfl);clear aX aW bu bg bh;cases bG with
       | false=>
        have ak:Hid (si.tell1 x=si):=κ (by rw[ad.o];rfl)
        go_wp2_with (first | (go_at_call 91;(go_call ae.o as e w5 ⟨rfl,G⟩;have H:=κ G;have aU:=β12 (qc G N.o.blk);have ba:=aK.o w5 G;clear G)) | (go_at_call 67;(go_call az.o _ H.o as e w6 ⟨rfl,U⟩;have af:=κ U;clear U)) | (go_at_call 75;(go_call aO.o _ as e bN ⟨rfl,rfl⟩)))
        go_roundw
        case rel=>exact⟨i+1,τ,by go_num,by rw[aA.o,List.foldl_append,ay.o];show qI w0 _ k (si.tell1 x) _;rw[ak.o];exact M.o.on ((H.o.trans af.o).al _),ah.o.trans (M.o.stay ((H.o.trans af.o).al _))⟩
        case measure=>simp[intOf];omega
       | true=>
        obtain⟨bL,aI⟩:=ν (jj I);have aO:Hid (∀w,Calls prog 75 #[ι I] w λe w'=>e= .returned (μ bL)/\w'=w):=κ (λw=>by rw[<-aI];exact Ub I w);rw[aI] at ad;have ch:=κ aI;clear aI;cases bL with
        | false=>
         have ak:Hid (si.tell1 x=si):=κ (by rw[ad.o];rfl)
         go_wp2_with (first | (go_at_call 91;(go_call ae.o as e w5 ⟨rfl,G⟩;have H:=κ G;have aU:=β12 (qc G N.o.blk);have ba:=aK.o w5 G;clear G)) | (go_at_call 67;(go_call az.o _ H.o as e w6 ⟨rfl,U⟩;have af:=κ U;clear U)) | (go_at_call 75;(go_call aO.o _ as e bN ⟨rfl,rfl⟩)))
         go_roundw
         case rel=>exact⟨i+1,τ,by go_num,by rw[aA.o,List.foldl_append,ay.o];show qI w0 _ k (si.tell1 x) _;rw[ak.o];exact M.o.on ((H.o.trans af.o).al _),ah.o.trans (M.o.stay ((H.o.trans af.o).al _))⟩
         case measure=>simp[intOf];omega
        | true=>
         obtain⟨t,J⟩:=Option.isSome_iff_exists.1 (ca.o x _ aM.o rfl I ch.o);have ak:Hid (si.tell1 x={si with strs:=qx si.strs (Y,I) {t with askedOf:=true}}):=κ (by rw[ad.o];simp only[J];rfl);obtain⟨p,cy,df,ao,bD⟩:=N.o.strAt J;have cf:=κ J;have bj:=κ ao;have bk:=κ bD;clear J ao bD ad
         go_upto_region 14 with (first | (go_at_call 91;(go_call ae.o as e w5 ⟨rfl,G⟩;have H:=κ G;have aU:=β12 (qc G N.o.blk);have ba:=aK.o w5 G;clear G)) | (go_at_call 67;(go_call az.o _ H.o as e w6 ⟨rfl,U⟩;have af:=κ U;clear U)) | (go_at_call 75;(go_call aO.o _ as e bN ⟨rfl,cm⟩;obtain rfl:=cm.symm)))
         obtain⟨ai,aE⟩:=ν (w6.alloc (.cells #[ι I,ι bF] 71));have aR:Hid (qa wr ai):=κ (by rw[<-aE];exact(H.o.trans af.o).al _);have bQ:Hid (ai.heap[w6.heap.size]? =some (.cells #[ι I,ι bF] 71 (0,0))):=κ (by rw[<-aE];exact qj w6 _)
         (try rw[aE])
         clear aE aU ba;have cv:=λ(x:qt ai)=>β13 (qc (aR.o.trans x.h) N.o.blk)
         have cx:=λ(x:qt ai)=>β0 (qc x.h bQ.o)
         have cw: ∀x:qt ai,(Instr.lookup 84 (.map (some k.MS)) (θ #[ι Y,ι I]) false).run prog x.w'= .ok (γ p) x.w':=λx=>by
          have:=ya (N.o.stm.more (aR.o.trans x.h)) (Y,I) false;rw[bj.o] at this;exact this
         refine Qn ai 11 12 [9,11] ?_
         refine Qq9 ?_
         (refine Ql ?_;intro K an)
         refine⟨qk ρ,an _ _ ?_⟩;clear an K
         refine Qq1 ?_
         have aB:=κ (aR.o.dr 1);have aJ:=κ (qc aB.o bk.o.blk);have cZ:=β7 aJ.o;have cM:=qd aJ.o 7;have be:=κ ((N.o.on aB.o).strSet (t':={t with askedOf:=true}) cf.o bj.o (bk.o.on aB.o) (qg.set (S:=λb=>b=p) (qg.refl _ _) (p:=⟨p,7,none⟩) rfl (μ true)) (qB (qp aJ.o 7 _) rfl) rfl)
         (refine Qe ?_;intro K an)
         refine an _ _ ?_;clear an K;refine qA ?_;go_wp2;go_roundw
         case rel=>exact⟨i+1,τ,by go_num,by rw[aA.o,List.foldl_append,ay.o];show qI w0 _ k (si.tell1 x) _;rw[ak.o];exact be.o.1,ah.o.trans ((M.o.stay aB.o).trans be.o.2)⟩
         case measure=>simp[intOf];omega
     ·obtain rfl:i=L.length:=by omega
      have co: ¬(L.length:Int)<(L.length:Int):=by omega
      go_wp2;go_roundw
      case rel=>exact⟨j+1,τ,by go_num,by rw[cg.o,List.foldl_append,ce.o];show qI w0 _ k (sj.tellS src) _;rw[bW.o];have:=M.o;rw[List.take_length] at this;exact this.sub (λb d=>List.mem_append_right _ d),ck.o.trans (ah.o.sub (λb d=>List.mem_append_right _ d))⟩
      case measure=>simp[intOf];omega
   ·obtain rfl:j=A.length:=by omega
    have cp: ¬(A.length:Int)<(A.length:Int):=by omega
    go_wp2
    (refine bodyPost_end (v:= .tuple #[]) ?re1 rfl ?_;(case re1=>simp[results,results135,go_sem]))
    exact⟨rfl,by rw[aj.o];have:=aw.o;rw[List.take_length] at this;exact this.sub (λb d=>List.mem_append_right _ d),cj.o.trans (aP.o.sub (λb d=>List.mem_append_right _ d))⟩
 ·have aj:Hid (s.tell b={s with cnt:={s.cnt with malf:=s.cnt.malf+1}}):=κ (by unfold RmS.tell;rw[bf.o,if_neg he]);have cD:(bo != 0)=true:=by simp[he]
  clear he am
  go_enter func135,ntmps135
  go_upto_region 2 with (go_at_call 174;(go_call ax.o as e w1 ⟨bM,rfl,s1,O⟩;have ab:=κ (av.o.on O);have aC:=κ (av.o.stay O);clear s1 O))
  obtain⟨vp,ct,aa⟩:=ab.o.blk;have cG:=β17 aa;have cK:=qd aa 17;clear aa;have ac:=κ (ab.o.cell 17 (ι (s.cnt.malf+1)) (s':={s with cnt:={s.cnt with malf:=s.cnt.malf+1}}) (λ_ _=>rfl) ⟨rfl,rfl,rfl,rfl,rfl,rfl,rfl,rfl,rfl⟩);go_wp2
  (refine bodyPost_ret (v:= .tuple #[]) ?re2 rfl ?_;(case re2=>simp[results,results135,go_sem]))
  exact⟨rfl,by rw[aj.o];exact ac.o.1,aC.o.trans ac.o.2⟩
end
section
variable {T:Nat->Tg} {w0 w w':World} {k k':RmK} {vp vr vp' vr':Value} {s s':RmS} {F:List Nat} {t1 t2:Tg}
theorem RmX.own2 (h:RmX T w0 w k vp vr s F) (H:t1≠ .no/\t1≠ .data) (J:t2≠ .no/\t2≠ .data) (a:qg (λb=>T b=t1∨T b=t2) w w')
  (Y:k'.Holds (jZ T t1 w w') w' vp' vr' s' t1) (aa:k'.Holds (jZ T t1 w w') w' vp' vr' s' t2)
  (rest: ∀u,u≠t1->u≠t2->u≠ .no->k.Holds (jZ T t1 w w') w' vp vr s u->k'.Holds (jZ T t1 w w') w' vp' vr' s' u):RmX (jZ T t1 w w') w0 w' k' vp' vr' s' F/\qw F w w':=by
 have I:=h.fresh
 have U: ∀b,(T b=t1∨T b=t2)->w0.heap.size<=b:=λb d=>h.ge b (by
  rcases d with d | d
  ·rw[d];exact H.1
  ·rw[d];exact J.1)
 refine⟨⟨λu=> ?_,λb d=> ?_,λb d=> ?_,a.to_more h.more U⟩,a.size,λb d=>a.block b (h.law b d).2.2 (λe=>by
  rcases e with e | e
  ·exact H.1 (by rw[<-e];exact(h.law b d).1)
  ·exact J.1 (by rw[<-e];exact(h.law b d).1))⟩
 ·by_cases e:u=t1
  ·subst e;exact Y
  ·by_cases e2:u=t2
   ·subst e2;exact aa
   ·by_cases en:u= .no
    ·subst en;exact Q9 I a.size
    ·refine rest u e e2 en (Holds.frame (h.all u) a (λb d=>⟨λG=> ?_,λG=> ?_⟩) (λb=>jF I en e b) (λb d=> ?_) en)
     ·rcases d with d | d
      ·exact e (G.symm.trans d)
      ·exact e2 (G.symm.trans d)
     ·rcases d with d | d
      ·exact H.2 (d.symm.trans G)
      ·exact J.2 (d.symm.trans G)
     ·exact(jF I η (Ne.symm H.2) b).2 d
 ·unfold jZ at d;split at d
  ·have:=h.more.size;omega
  ·exact h.ge b d
 ·obtain⟨M,N,O⟩:=h.law b d;refine⟨?_,N,Nat.lt_of_lt_of_le O a.size⟩;unfold jZ;rw[if_neg τ];exact M
theorem VO (H: ∀b,w.heap.size<=b->T b= .no) {t:Tg} (J:t≠ .no) {v v':Value} {W:World} (M: ∀g,v.ownBlock=some g->T g=t) (G:w.heap.size<=W.heap.size) (N:v'.ownBlock=v.ownBlock∨v'.ownBlock=some W.heap.size) (I: ∀g,v'.ownBlock=some g->g<w'.heap.size):
  ∀g,v'.ownBlock=some g->jZ T t w w' g=t:=λg d=>(jd H J g).2 (by
 rcases N with e | e
 ·exact Or.inl (M g (by rw[<-e];exact d))
 ·rw[e] at d;injection d with d
  subst d
  exact Or.inr ⟨rfl,G,I _ e⟩)
theorem RmX.pksPut (h:RmX T w0 w k vp vr s F) {W:World} {v':Value} {y:AcS} (a:qg (λb=>vp.ownBlock=some b∨b=k.R) w w') (U:w.heap.size<=W.heap.size)
  (row:je 13 RAc (λb=>(T b≠ .data/\T b≠ .pks)/\b<w.heap.size) w' 0 57 v' (s.pks++[y])) (ab:v'.ownBlock=vp.ownBlock∨v'.ownBlock=some W.heap.size)
  (M:w'.heap[k.R]? =some (.cells (zH k v' vr s) 88 (0,0))):qI w0 w' k {s with pks:=s.pks++[y]} F/\qw F w w':=by
 obtain⟨I,_⟩:=h.all .room;obtain⟨_,J⟩:=h.all .pks;have G:=h.fresh;have aa:je 13 RAc (λb=>jZ T .pks w w' b≠ .data/\jZ T .pks w w' b≠ .pks) w' 0 57 v' (s.pks++[y]):=row.other λb d=>by
  by_cases e:b<w.heap.size
  ·refine Or.inl ⟨⟨λH=>d.1 ((jF G η η _).2 H),λH=>d.2 ((jd G η _).2 (Or.inl H))⟩,e⟩
  ·by_cases e3:b<w'.heap.size
   ·exact absurd ((jd G η _).2 (Or.inr ⟨rfl,τ,e3⟩)) d.2
   ·exact Or.inr τ
 obtain⟨x,y⟩:=h.own2 (k':=k) (t1:= .pks) (t2:= .room) (vp':=v') (vr':=vr) (s':={s with pks:=s.pks++[y]}) ⟨η,η⟩ ⟨η,η⟩ (a.mono λb d=>by
   rcases d with d | rfl
   ·exact Or.inl (J b d)
   ·exact Or.inr I)
  ⟨aa,VO G η J U ab (λg Y=>row.lt Y)⟩
  ⟨(jF G η η _).2 I,M⟩
  (λu N O ac z=>by cases u<;>first | exact z | exact absurd rfl N | exact absurd rfl O)
 exact⟨⟨_,_,_,x⟩,y⟩
theorem RmX.reqsPut (h:RmX T w0 w k vp vr s F) {W:World} {v':Value} {y:RqS} (a:qg (λb=>vr.ownBlock=some b∨b=k.R) w w') (U:w.heap.size<=W.heap.size)
  (row:je 4 RRq (λb=>(T b≠ .data/\T b≠ .reqs)/\b<w.heap.size) w' 0 105 v' (s.reqs++[y])) (ab:v'.ownBlock=vr.ownBlock∨v'.ownBlock=some W.heap.size)
  (M:w'.heap[k.R]? =some (.cells (zH k vp v' s) 88 (0,0))):qI w0 w' k {s with reqs:=s.reqs++[y]} F/\qw F w w':=by
 obtain⟨I,_⟩:=h.all .room;obtain⟨_,J⟩:=h.all .reqs;have G:=h.fresh;have aa:je 4 RRq (λb=>jZ T .reqs w w' b≠ .data/\jZ T .reqs w w' b≠ .reqs) w' 0 105 v' (s.reqs++[y]):=row.other λb d=>by
  by_cases e:b<w.heap.size
  ·refine Or.inl ⟨⟨λH=>d.1 ((jF G η η _).2 H),λH=>d.2 ((jd G η _).2 (Or.inl H))⟩,e⟩
  ·by_cases e3:b<w'.heap.size
   ·exact absurd ((jd G η _).2 (Or.inr ⟨rfl,τ,e3⟩)) d.2
   ·exact Or.inr τ
 obtain⟨x,y⟩:=h.own2 (k':=k) (t1:= .reqs) (t2:= .room) (vp':=vp) (vr':=v') (s':={s with reqs:=s.reqs++[y]}) ⟨η,η⟩ ⟨η,η⟩ (a.mono λb d=>by
   rcases d with d | rfl
   ·exact Or.inl (J b d)
   ·exact Or.inr I)
  ⟨aa,VO G η J U ab (λg Y=>row.lt Y)⟩
  ⟨(jF G η η _).2 I,M⟩
  (λu N O ac z=>by cases u<;>first | exact z | exact absurd rfl N | exact absurd rfl O)
 exact⟨⟨_,_,_,x⟩,y⟩
theorem Ns (h:qI w0 w k s F) (sub id:Int):
  Calls prog 179 #[γ k.B,θ #[ι sub,ι id]] w λe w'=>(∃v,e= .returned (ι v))/\qI w0 w' k {s with book:=(vT s.book (sub,id)).1} F/\qw F w w'/\qg (λx=>x=k.b) w w':=by
 obtain⟨T,vp,H,x⟩:=h;refine(Nu x.bok (sub,id)).mono ?_;rintro e w' ⟨rfl,b,a⟩;obtain⟨d,G⟩:=x.book b a;exact⟨⟨_,rfl⟩,d,G,a⟩
end
theorem Qy {K V:Type} [DecidableEq K] (m:List (K×V)) (k:K) (v u:V):qx (qx m k v) k u=qx m k u:=by
 induction m with
 | nil=>simp[qx]
 | cons p m ih=>
  obtain⟨a,x⟩:=p;by_cases e:k=a
  ·simp[qx,e]
  ·simp[qx,e,ih]
theorem ZL {K V:Type} [DecidableEq K] (m:List (K×V)) (k:K) (v:V) (h:qh m k=some v):qx m k v=m:=by
 induction m with
 | nil=>cases h
 | cons p m ih=>
  obtain⟨a,x⟩:=p;by_cases e:k=a
  ·simp[qh,e] at h;simp[qx,e,h]
  ·simp[qh,e] at h;simp[qx,e,ih h]
def DT (P:Nat->Prop) (vs ve vp:Value) (p:Pk):Prop:=(p.ss≠[]-> ∀g,vs.ownBlock=some g->P g)/\(p.ex≠[]-> ∀g,ve.ownBlock=some g->P g)/\(p.pl≠[]-> ∀g,vp.ownBlock=some g->P g)
theorem SlI.stay {k:IntKind} {F:List Nat} {w w':World} {v:Value} {l:List Int} (h:SlI k w v l) (I:l≠[]-> ∀b,v.ownBlock=some b->b∈F) (a:qw F w w'):SlI k w' v l:=by
 obtain⟨N,cap,rfl,d,G,H⟩:=h;refine⟨N,cap,rfl,d,λi hi=> ?_,H⟩;obtain⟨b,O,rfl,M,J⟩:=G i hi;exact⟨b,O,rfl,Nat.lt_of_lt_of_le M a.1,by rw[World.cell?_of_block (a.2 b (I (λe=>by rw[e] at hi;simp at hi) b rfl))];exact J⟩
theorem PkS.stay {F:List Nat} {w w':World} {H G vp:Value} {p:Pk} (h:PkS w H G vp p) (d:DT (· ∈F) H G vp p) (a:qw F w w'):PkS w' H G vp p:=
 ⟨h.s.stay d.1 a,h.e.stay d.2.1 a,h.l.stay d.2.2 a⟩
section
variable {w0 w w':World} {k:RmK} {s:RmS} {F Fn:List Nat}
theorem FI (eE:qI w0 w k s (Fn++F)) (ds:zc s) (G o2:Int) {t:zu} (ak:qh s.strs (G,o2)=some t) (p:Pk) (bg be bf:Value) (aV:PkS w bg be bf p)
  (df:DT (· ∈Fn) bg be bf p) (dg: ∀g∈Fn,g∉F) (dq:U16 p.sq) (dl:xz (yV t p.sq)) (ai:t.any=true->xz t.great) (de:xz s.clock) (fG:s.pks.length<=1000000) (eN:0<=s.cnt.acc/\s.cnt.acc<=1000000000) (dm:Byt p.pl) (dn:p.pl.length<=1000000):
  Calls prog 137 #[γ k.R,θ #[ι G,ι o2],(Γq p bg be bf)] w λe w'=>e= .returned (.tuple #[])/\qI w0 w' k (s.accept (G,o2) p) F/\qw F w w':=by
 obtain⟨w4,bx⟩:=ν (w.alloc (.cells #[ι G,ι o2] 50));obtain⟨W1,bt⟩:=ν (w4.alloc (.cells (Γq p bg be bf) 55));have bA:qa w w4:=by rw[<-bx];exact qa.alloc _ _
 have cr:qa w4 W1:=by rw[<-bt];exact qa.alloc _ _
 have bj:Hid (W1.heap[w.heap.size]? =some (.cells #[ι G,ι o2] 50 (0,0))):=κ (qc cr (by rw[<-bx];exact qj w _));have aK:Hid (W1.heap[w4.heap.size]? =some (.cells (Γq p bg be bf) 55 (0,0))):=κ (by rw[<-bt];exact qj w4 _);have bT:=κ (bA.trans cr);obtain⟨T,vp,fk,h⟩:=eE
 have bY:RmX T w0 W1 k vp fk s ([w.heap.size,w4.heap.size]++(Fn++F)):=h.adds bT.o (λb d=>by
  have eF:=qn bj.o;have eG:=qn aK.o;have:=bA.size;simp at d;rcases d with rfl | rfl
  ·exact⟨Nat.le_refl _,eF⟩
  ·exact⟨this,eG⟩)
 have aO:=κ bY;have eo:=κ bA;have eg:Hid (∀b∈Fn,b<w.heap.size):=κ (λb d=>(h.law b (List.mem_append_left _ d)).2.2);have eq:=κ (h.at.stay bT.o);obtain⟨aa,fp,vb,dp,dv⟩:=bY.strAt ak;have aH:=κ dp;have br:=κ dv;have bM:=κ ak;have el:=κ (aV.keep bT.o);have ar:=κ df;have ee:=κ dg;have bL:=κ ds;have dS:=λ(x:qt W1)=>β13 (qc x.h aO.o.blk)
 have bR:=λ(x:qt W1)=>qc x.h bj.o
 have aM:=λx=>β0 (bR x);have bD:=λx=>β1 (bR x);clear bR
 have dV: ∀x:qt W1,(Instr.lookup 84 (.map (some k.MS)) (θ #[ι G,ι o2]) false).run prog x.w'= .ok (γ aa) x.w':=λx=>by
  have:=ya (aO.o.stm.more x.h) (G,o2) false;rw[aH.o] at this;exact this
 obtain⟨cu,dt⟩:=ν (t.any);have aI:=κ dt;obtain⟨n,ck⟩:=ν (yV t p.sq);have bn:=κ ck;have bK:=κ dl;have eh:=κ ai;have cM:=κ dq;have ec:=κ de;have cJ:=κ (And.intro dm dn);rw[ck] at bK;obtain⟨os,am,rfl,eT⟩:=id aV.s;obtain⟨an,ke,rfl,eO⟩:=id aV.e;obtain⟨af,ae,rfl,eQ⟩:=id aV.l;clear dm dn h bY dp dv ak aV df dg ds dt ck dl ai dq de bA cr eT eO eQ
 go_enter func137,ntmps137
 go_upto_region 1 with fail
 (try rw[bx])
 (try rw[bt])
 clear bx bt;refine qD _ (qa.refl _) ξ ξ ?_
 repeat (go_big_quiet_step (fail))
 refine wpQuiet_nil ?_;intro _ eV;obtain⟨dJ,rfl⟩:=eV;obtain⟨W2,cd⟩:=ν (dJ.w');have aw:Hid (qa W1 W2):=κ (by rw[<-cd];exact dJ.h);rw[cd];clear cd dS aM bD dV;have ct:=β2 (qc aw.o aK.o);have t1:=β1 (qc aw.o br.o.blk);have t2:=β2 (qc aw.o br.o.blk);rw[aI.o] at t1
 go_upto_if 28 with (go_at_call 177;(go_call Wa p.sq cM.o _ as e fS ⟨rfl,ey⟩;obtain rfl:=ey))
 go_cut [7] from 29 (λv ag=>v= ι n/\qa W2 ag)
 case first=>
  cases cu with
  | false=>
   go_wp2;go_meet;exact⟨by rw[<-bn.o];unfold yV;rw[aI.o];rfl,qa.refl _⟩
  | true=>
   have fo:=λ(x:qt W2)=>β2 (qc (aw.o.trans x.h) aK.o)
   have fn:=λ(x:qt W2)=>β2 (qc (aw.o.trans x.h) br.o.blk)
   go_upto_region 4 with fail
   refine Qn W2 9 9 [7] ?_
   refine Qq7 ?_
   (refine Ql ?_;intro K H)
   go_call Wm t.great p.sq (eh.o aI.o) cM.o _ as e w5 ⟨rfl,rfl⟩;refine⟨_,rfl,qk ρ,H _ _ ?_⟩;clear H K
   refine Qq1 ?_
   refine qA ?_;go_wp2;go_meet;exact⟨by rw[<-bn.o];unfold yV;rw[aI.o];rfl,ρ⟩
 case rest=>
 obtain⟨rfl,ay⟩:=hcut;obtain⟨bl,ca⟩:=ν ([w.heap.size,w4.heap.size]++(Fn++F));rw[ca] at aO;have au:=κ ca;have cS:=κ (aO.o.on (aw.o.trans ay));have aP:=κ (br.o.on (aw.o.trans ay));have ep:=κ (aO.o.at.stay (aw.o.trans ay));clear ay ct t1 t2 ca;have t1:=β1 aP.o.blk;have t2:=β2 aP.o.blk;have fE:=qd aP.o.blk 2;rw[aI.o] at t1;obtain⟨c,dd⟩: ∃c:Bool,(!cu||decide (t.great<n))=c:=⟨_,rfl⟩;have bG:=κ dd;clear dd
 go_upto_region 5 with fail
 go_cut [49] from 50 (λv ag=>v= μ c/\ag=wc)
 case first=>
  cases cu with
  | false=>
   go_wp2;go_meet;exact⟨by rw[<-bG.o];rfl,rfl⟩
  | true=>
   go_wp2;go_meet;exact⟨by rw[<-bG.o];rfl,rfl⟩
 case rest=>
 obtain⟨rfl,ez⟩:=hcut;obtain rfl:=ez.symm
 go_upto_if 49 with fail
 obtain⟨fx,eJ⟩:=ν (wc);subst eJ;obtain⟨aT,dk⟩:=ν ((if c then n else t.great));have bJ:=κ dk;clear dk
 go_cut [] from 50 (λag=>qI w0 ag k {s with strs:=qx s.strs (G,o2) {t with great:=aT}} bl/\qw bl wc ag)
 case first=>
  cases c with
  | false=>
   have bH:Hid ({s with strs:=qx s.strs (G,o2) {t with great:=aT}}=s):=κ (by rw[<-bJ.o];show {s with strs:=qx s.strs (G,o2) t}=s;rw[ZL _ _ _ bM.o]);go_wp2;go_meet;exact⟨by rw[bH.o];exact cS.o.at,qw.refl _ _⟩
  | true=>
   have aq:=κ (cS.o.strSet (t':={t with great:=aT}) bM.o aH.o aP.o (qg.set (S:=λb=>b=aa) (qg.refl _ _) (p:=⟨aa,2,none⟩) rfl (ι n)) (qB (qp aP.o.blk 2 _) (by rw[<-bJ.o];rfl)) rfl);go_wp2;go_meet;exact aq.o
 case rest=>
 obtain⟨bZ,bd⟩:=hcut;have cW:=κ (ep.o.trans bd);obtain⟨fw,fN,fR,cx⟩:=bZ;obtain⟨fc,fq,fI,bu,aY⟩:=cx.strAt (o:=(G,o2)) (xD _ _ _);obtain rfl:aa=fc:=by rw[aH.o] at bu;injection bu
 have eu:=β1 aY.blk;have eA:=qd aY.blk 1;have U:=κ (cx.strSet (t':={t with great:=aT,any:=true}) (xD _ _ _) bu aY (qg.set (S:=λb=>b=aa) (qg.refl _ _) (p:=⟨aa,1,none⟩) rfl (μ true)) (qB (qp aY.blk 1 _) rfl) rfl);simp only[Qy] at U;obtain⟨t2,cp⟩: ∃t2:zu,{t with great:=aT,any:=true}=t2:=⟨_,rfl⟩;have cR:=κ cp;clear bd cx bu aY
 go_upto_region 8 with fail
 obtain⟨W7,ce⟩:=ν (wc.setCell ⟨aa,1,none⟩ (μ true));rw[ce] at U
 (try rw[ce])
 clear ce eu eA;have dY:Hid (qI w0 W7 k {s with strs:=qx s.strs (G,o2) t2} bl):=κ (by rw[<-cp];exact U.o.1);have aj:=κ (cW.o.trans U.o.2);clear cp U cW;obtain⟨fu,fi,fl,aB⟩:=dY.o;obtain⟨M,_,J,rfl,rfl,_⟩:=(aB.all .pks).1.shape;have bQ:=κ aB;have bX:=β14 aB.blk;clear aB
 go_upto_region 9 with fail
 clear bX;have cK:=κ (el.o.stay (F:=bl) ⟨λI g ai=>by rw[<-au.o];exact List.mem_append_right _ (List.mem_append_left _ (ar.o.1 I g ai)),λI g ai=>by rw[<-au.o];exact List.mem_append_right _ (List.mem_append_left _ (ar.o.2.1 I g ai)),λI g ai=>by rw[<-au.o];exact List.mem_append_right _ (List.mem_append_left _ (ar.o.2.2 I g ai))⟩ aj.o);have ef:Hid (∀b∈Fn,b<w.heap.size):=κ eg.o
 obtain⟨ad,dI,cZ,_⟩:=(bQ.o.sub (F':=[w.heap.size,w4.heap.size]++F) (λb d=>by
  rw[<-au.o];rcases List.mem_append.1 d with e | e
  ·exact List.mem_append_left _ e
  ·exact List.mem_append_right _ (List.mem_append_right _ e))).data (λb=>b∈Fn) (λb d=>by
   obtain⟨fg,ct,fh⟩:=bQ.o.law b (by rw[<-au.o];exact List.mem_append_right _ (List.mem_append_left _ d));refine⟨fg,ct,fh,λeK=> ?_⟩;rcases List.mem_append.1 eK with e | e
   ·have fT:=ef.o b d;have fU:=eo.o.size;simp at e;omega
   ·exact ee.o b d e)
 have O:=κ dI;have bp:=κ cZ;clear dI cZ bQ;have dM:=κ (aj.o.blk (by rw[<-au.o];simp) bj.o);have dO:=κ (aj.o.blk (by rw[<-au.o];simp) aK.o);obtain⟨_,du⟩:=O.o.all .pks;have aN:=κ du;clear du;have aJ: ¬(δ M s.pks.length J).ownBlock=some k.R:=λe=>by have:=aN.o _ e;rw[(O.o.all .room).1] at this;cases this
 have dy: ¬(δ M s.pks.length J).ownBlock=some w.heap.size:=λe=>by have:=aN.o _ e;rw[(O.o.law w.heap.size η).1] at this;cases this
 have dz: ¬(δ M s.pks.length J).ownBlock=some w4.heap.size:=λe=>by have:=aN.o _ e;rw[(O.o.law w4.heap.size η).1] at this;cases this
 have dT:=λ(x:qz (λb=>(δ M s.pks.length J).ownBlock=some b) W7)=>β14 (x.h.blk O.o.blk aJ)
 have bS:=λ(x:qz (λb=>(δ M s.pks.length J).ownBlock=some b) W7)=>x.h.blk dM.o dy
 have aM:=λx=>β0 (bS x);have bD:=λx=>β1 (bS x);clear bS
 have cF: ∀x:qz (λb=>(δ M s.pks.length J).ownBlock=some b) W7,x.w'.rangeAt w4.heap.size 0 (Γh p os am an ke af ae):=λx=>xy (x.h.blk dO.o dz)
 obtain⟨eZ,hi,eW,eX,eY⟩:=info_parts (P:=prog) (e:=57) (z:= θ #[ι 0,ι 0,ι 0,false,υ 0,φ 0,ω 0,ω 0,(),false,φ 0,(),()]) (size:=13) (bytes:=120) ξ;refine QN (λb=>(δ M s.pks.length J).ownBlock=some b) W7 13 14 [9,10,11,13] ?_
 refine Qs7 ?_
 refine jh rfl rfl (qi σ) 55 (.tmp 5) rfl w4.heap.size 0 rfl (Γh p os am an ke af ae) _ (λw' Y=>by obtain⟨x,rfl⟩:=Y;exact cF x) underlying55 rfl ξ ?_;intro K H;go_simp;refine H _ ?_;clear H K dT aM bD cF
 refine Qs1 ?_
 (refine Ql ?_;intro K H)
 refine⟨qi (((qg.refl _ W7).drewN 1).alc _),H _ _ ?_⟩;clear H K;have cq: ∀g,(δ M s.pks.length J).ownBlock=some g->ad g= .pks:=aN.o;have dE:=(((O.o.all .pks).1.on (qa.drewN W7 1)).on (qa.alloc _ (.cells (Γi G o2 n p os am an ke af ae) 57))).other (D':=λb=>(ad b≠ .data/\ad b≠ .pks)/\b<W7.heap.size) (λb d=>Or.inl d.1);have bB:=(cK.o.keep (qa.drewN W7 1)).keep (qa.alloc _ (.cells (Γi G o2 n p os am an ke af ae) 57));have dD:jw RAc (λb=>((ad b≠ .data/\ad b≠ .pks)/\b<W7.heap.size)∨(δ M s.pks.length J).ownBlock=some b) ((W7.drewN 1).alloc (.cells (Γi G o2 n p os am an ke af ae) 57)) (Γi G o2 n p os am an ke af ae) ⟨(G,o2),n,p⟩:=λw' a=>by
  have cm: ∀g,g∈Fn-> ¬(((ad g≠ .data/\ad g≠ .pks)/\g<W7.heap.size)∨(δ M s.pks.length J).ownBlock=some g):=λg ai Y=>by
   have e:=bp.o g ai;rcases Y with Y | Y
   ·exact Y.1.1 e
   ·rw[cq g Y] at e;cases e
  exact⟨_,_,_,rfl,bB.s.off2 (λI b d=>cm b (ar.o.1 I b d)) a,bB.e.off2 (λI b d=>cm b (ar.o.2.1 I b d)) a,bB.l.off2 (λI b d=>cm b (ar.o.2.2 I b d)) a⟩
 refine jR rfl rfl ?_;intro K H
 refine zK (.tmp 66) (.tmp 71) 85 rfl 0 57 eZ (θ #[ι 0,ι 0,ι 0,false,υ 0,φ 0,ω 0,ω 0,(),false,φ 0,(),()]) 13 120 underlying85 hi eW eX eY rfl ζ _ s.pks rfl dE W7.heap.size (Γi G o2 n p os am an ke af ae) ⟨(G,o2),n,p⟩ rfl rfl (kX rfl) (by simp[Value.oneCell']) dD (λb d=>by
  have:=d.2;have:=(((qa.drewN W7 1)).al (.cells (Γi G o2 n p os am an ke af ae) 57)).size
  omega) ζ τ (Nat.zero_le _) ?_
 intro v6 w6 cl dj dc;have aC:Hid (qg (λb=>(δ M s.pks.length J).ownBlock=some b) W7 w6):=κ ((((qg.refl _ W7).drewN 1).alc _).trans (qg.of_grown dj));obtain⟨bb,ba,aS,rfl,eR,eS⟩:=cl.shape;have bk:=κ (aC.o.blk O.o.blk aJ);have eI:=O.o.lt;have cy:(ad k.R≠ .data/\ad k.R≠ .pks)/\k.R<W7.heap.size:=⟨by rw[(O.o.all .room).1];exact⟨η,η⟩,eI⟩;have bm:=κ (O.o.pksPut (y:=⟨(G,o2),n,p⟩) ((aC.o.mono (S':=λb=>(δ M s.pks.length J).ownBlock=some b∨b=k.R) (λb d=>Or.inl d)).set (p:=⟨k.R,14,none⟩) (Or.inr rfl) (δ bb ba aS)) (((qa.drewN W7 1)).al (.cells (Γi G o2 n p os am an ke af ae) 57)).size (cl.step (qg.set (S:=λb=>(ad b≠ .data/\ad b≠ .pks)/\b<W7.heap.size) (qg.refl _ _) (p:=⟨k.R,14,none⟩) cy (δ bb ba aS))) dc (qB (qp bk.o 14 _) rfl));have bX:w6.cell? ⟨k.R,14,none⟩=some (δ M s.pks.length J):=qb bk.o 14 rfl;have eB:w6.frozen? ⟨k.R,14,none⟩=false:=qd bk.o 14;clear cl dj dc dE dD bB eR eS;refine⟨qi aC.o,H _ _ ?_⟩;clear H K;go_simp
 (refine Ql ?_;intro K H)
 refine⟨qi aC.o,H _ _ ?_⟩;clear H K
 iterate 1 (refine qE rfl rfl (qi aC.o) ?_;intro K H;go_big_quiet_op;go_big_quiet_on)
 (refine Qe ?_;intro K H)
 refine H _ _ ?_;clear H K;refine qA ?_
 have cH:Hid (SlI .u8 (w6.setCell ⟨k.R,14,none⟩ (δ bb ba aS)) (δ af p.pl.length ae) p.pl):=κ (cK.o.l.off2 (D:=λb=>(δ M s.pks.length J).ownBlock=some b∨b=k.R) (λI b d Y=>by
  have e:=bp.o b (ar.o.2.2 I b d);rcases Y with Y | Y
  ·rw[cq b Y] at e;cases e
  ·rw[Y,(O.o.all .room).1] at e;cases e) ((aC.o.mono (S':=λb=>(δ M s.pks.length J).ownBlock=some b∨b=k.R) (λb d=>Or.inl d)).set (p:=⟨k.R,14,none⟩) (Or.inr rfl) (δ bb ba aS)))
 have cU:Hid (p.pl≠[]-> ∀b,(δ af p.pl.length ae).ownBlock=some b->b≠k.b/\b≠k.R):=κ (λI b d=>by
  have e:=bp.o b (ar.o.2.2 I b d);refine⟨λx=> ?_,λx=> ?_⟩
  ·rw[x,(O.o.all .book).2.1] at e;cases e
  ·rw[x,(O.o.all .room).1] at e;cases e)
 obtain⟨cX,cf⟩:=ν (w6.setCell ⟨k.R,14,none⟩ (δ bb ba aS));rw[cf] at cH bm
 have bU:Hid (qw ([w.heap.size,w4.heap.size]++F) W1 cX):=κ ((aj.o.sub (λb d=>by
  rw[<-au.o];rcases List.mem_append.1 d with e | e
  ·exact List.mem_append_left _ e
  ·exact List.mem_append_right _ (List.mem_append_right _ e))).trans bm.o.2)
 have cA:=κ bm.o.1;obtain⟨fM,fQ,bC⟩:=cA.o.blk;have ex:=β20 bC;have eC:=qd bC 20;obtain⟨fy,fz⟩:=eN;clear bC bX eB aJ dy dz cq bp aN O aC bk bm cy;have aq:=κ (cA.o.cell 20 (ι (s.cnt.acc+1)) (s':={s with strs:=qx s.strs (G,o2) t2,pks:=s.pks++[⟨(G,o2),n,p⟩],cnt:={s.cnt with acc:=s.cnt.acc+1}}) (λ_ _=>rfl) ⟨rfl,rfl,rfl,rfl,rfl,rfl,rfl,rfl,rfl⟩);have cI:=κ (cH.o.off2 (λI b d=>(cU.o I b d).2) (qg.set (S:=λb=>b=k.R) (qg.refl _ _) (p:=⟨k.R,20,none⟩) rfl (ι (s.cnt.acc+1))))
 go_upto_region 10 with fail
 (try rw[cf])
 clear cf
 go_upto_region 11 with fail
 obtain⟨aF,cg⟩:=ν (cX.setCell ⟨k.R,20,none⟩ (ι (s.cnt.acc+1)));rw[cg] at aq cI
 (try rw[cg])
 clear cg ex eC;obtain⟨id,ci⟩: ∃id:Int,(s.pks.length:Int)=id:=⟨_,rfl⟩;have cG:=κ ci
 (try rw[ci])
 clear ci;obtain⟨ao,cb⟩:=ν ([w.heap.size,w4.heap.size]++F);have aD:=κ cb;rw[cb] at aq bU;obtain⟨ac,aX⟩: ∃ac:RmS,{s with strs:=qx s.strs (G,o2) t2,pks:=s.pks++[⟨(G,o2),n,p⟩],cnt:={s.cnt with acc:=s.cnt.acc+1}}=ac:=⟨_,rfl⟩;have em:=κ aX;rw[aX] at aq;have dZ:=κ aq.o.1;have bV:=κ (bU.o.trans aq.o.2);have cO:Hid (zc ac):=κ (by rw[<-aX];exact⟨bL.o.keys,bL.o.lane,bL.o.few⟩);have bN:Hid (ac.tab=s.tab/\ac.book=s.book/\ac.clock=s.clock/\qh ac.strs (G,o2)=some t2):=κ (by rw[<-aX];exact⟨rfl,rfl,rfl,xD _ _ _⟩);clear aX cb aq bU;obtain⟨fs,fK,fO,dG⟩:=dZ.o;have bq:=κ dG;have dN:=κ (bV.o.blk (by rw[<-aD.o];simp) bj.o);have dP:=κ (bV.o.blk (by rw[<-aD.o];simp) aK.o);have dR:=λ(x:qt aF)=>β11 (qc x.h bq.o.blk)
 have aM:=λ(x:qt aF)=>β0 (qc x.h dN.o)
 obtain⟨L,cc⟩:=ν (prR (j8 G) ac.tab.u);have ei:=κ cc;have cQ:=κ (λw m=>Hk (bq.o.tab.more (w':=w) m) G cO.o.keys cO.o.few);rw[cc] at cQ;clear cc dG;refine Qn aF 8 8 [6] ?_
 refine Qq6 ?_
 (refine Ql ?_;intro K H)
 go_call cQ.o _ (qa.drewN aF 1) as e bh ⟨⟨v3,rfl,dF,dx⟩,ay⟩;obtain⟨fH,fD,ap,rfl,fF,dH,dr⟩:=(bq.o.on (qa.drewN aF 1)).ints ay dF dx;have aQ:Hid (qa aF bh):=κ ((qa.drewN aF 1).trans ay);have cN:=κ dr;have dX:=κ dH.at;have er:=κ (bV.o.trans (bq.o.at.stay aQ.o));have ej:=κ (cI.o.keep aQ.o);clear ay dF dx dH dr;refine⟨_,rfl,qk aQ.o,H _ _ ?_⟩;clear H K
 iterate 1 (refine qE rfl rfl (qk aQ.o) ?_;intro K H;go_big_quiet_op;go_big_quiet_on)
 refine qA ?_;clear dR aM;go_wp2
 go_loopw [93] (λaG wr=> ∃j:Nat,j<=L.length/\aG= ι j/\qI w0 wr k {ac with book:=Ji ac.book (L.take j) id} (ap++ao)/\qw (ap++ao) bh wr/\qg (λb=>b=k.b) bh wr) (λaG _=>L.length-(intOf aG).toNat)
 case atStart=>exact⟨0,τ,rfl,dX.o,qw.refl _ _,qg.refl _ _⟩
 case round=>
  obtain⟨j,eP,rfl,aW,ak,da⟩:=hrel;have ah:=κ aW;have av:=κ ak;have cB:=κ da;clear aW ak da;by_cases hlt:j<L.length
  ·have cj:(j:Int)<(L.length:Int):=by omega
   obtain⟨ev,fa,rfl,eM⟩:=cN.o wr (λb d=>av.o.2 b (by simp[d])) j hlt;have bO:Hid (L.take (j+1)=L.take j++[L[j]]):=κ (by rw[List.take_add_one,List.getElem?_eq_getElem hlt];rfl);generalize L[j]=x at *;obtain⟨fj,fm,aL⟩:=ah.o.blk;have ew:=β0 aL;clear aL
   go_wp2_with (go_at_call 179;(go_call Ns ah.o x id as e cw ⟨⟨v7,rfl⟩,aU,bc,bs⟩;have U:=κ aU;have aj:=κ bc;have dL:=κ bs;clear aU bc bs))
   go_roundw
   case rel=>exact⟨j+1,τ,by go_num,by have:=U.o;unfold Ji at this ⊢;rw[bO.o,List.foldl_append];exact this,av.o.trans aj.o,cB.o.trans dL.o⟩
   case measure=>simp[intOf];omega
  ·obtain rfl:j=L.length:=by omega
   have cj: ¬(L.length:Int)<(L.length:Int):=by omega
   rw[List.take_length] at ah;have dQ:=κ (β9 (av.o.blk (b:=w4.heap.size) (by simp[<-aD.o]) (qc aQ.o dP.o)));have ff:=dQ.o;have ek:=κ (ej.o.off2 (λI b d=>(cU.o I b d).1) cB.o);obtain⟨cY,ch⟩:=ν (zJ p.pl);have cC:=κ (Jg _ p.pl wr ek.o cJ.o.1 cJ.o.2);rw[ch] at cC;have eb:=κ ch;clear ch
   go_upto_if 109 with (go_at_call 139;(go_call cC.o as e cw ⟨rfl,dw⟩;have cT:=κ dw;clear dw))
   have U:=κ (ah.o.on cT.o);have es:=κ (av.o.trans (ah.o.stay cT.o));obtain⟨N,bw⟩: ∃N:RmS,{ac with book:=Ji ac.book L id}=N:=⟨_,rfl⟩;have en:=κ bw;rw[bw] at U;have bo:Hid (qh N.strs (G,o2)=some t2/\N.clock=s.clock):=κ (by rw[<-bw];exact⟨bN.o.2.2.2,bN.o.2.2.1⟩);obtain⟨aR,db⟩:=ν ((if cY then false else t2.askedOf));have bF:=κ db;obtain⟨aj,fi,fl,aB⟩:=U.o;obtain⟨fd,fr,fJ,bv,aZ⟩:=aB.strAt bo.o.1;obtain rfl:aa=fd:=by rw[aH.o] at bv;injection bv
   have fb:=β7 aZ.blk;have eD:=qd aZ.blk 7;have ea:=κ (aB.strSet (t':={t2 with askedOf:=false}) bo.o.1 bv aZ (qg.set (S:=λb=>b=aa) (qg.refl _ _) (p:=⟨aa,7,none⟩) rfl (μ false)) (qB (qp aZ.blk 7 _) rfl) rfl);clear bw db aB bv aZ ff
   go_cut [] from 110 (λag=>qI w0 ag k {N with strs:=qx N.strs (G,o2) {t2 with askedOf:=aR}} (ap++ao)/\qw (ap++ao) cw ag)
   case first=>
    cases cY with
    | false=>
     have bH:Hid ({N with strs:=qx N.strs (G,o2) {t2 with askedOf:=aR}}=N):=κ (by rw[<-bF.o];show {N with strs:=qx N.strs (G,o2) t2}=N;rw[ZL _ _ _ bo.o.1]);go_wp2;go_meet;exact⟨by rw[bH.o];exact U.o,qw.refl _ _⟩
    | true=>
     obtain rfl:false=aR:=bF.o;go_wp2;go_meet;exact ea.o
   case rest=>
   obtain⟨bZ,bd⟩:=hcut;have et:=κ (es.o.trans bd);obtain⟨ft,fL,fP,bi⟩:=bZ;have bP:=κ bi;obtain⟨fe,ax,aA,cn,bz⟩:=bi.strAt (o:=(G,o2)) (xD _ _ _);obtain rfl:aa=fe:=by rw[aH.o] at cn;injection cn
   have aE:=κ bz;have dA:k.R≠ax:=λe=>by have:=bz.nb;rw[<-e,(bi.all .room).1] at this;cases this
   have dB: ¬aA.ownBlock=some k.R:=λe=>by have:=(bz.nv _ e).1;rw[(bi.all .room).1] at this;cases this
   have aJ: ¬(k.R=ax∨aA.ownBlock=some k.R):=λe=>e.elim dA dB
   have dC: ¬(aa=ax∨aA.ownBlock=some aa):=λe=>e.elim (λe=>aE.o.ne e) (λe=>(aE.o.nv _ e).2 rfl)
   have ed:Hid (N.clock=s.clock):=κ bo.o.2;have dU: ∀x:qz (λb=>b=ax∨aA.ownBlock=some b) wc,x.w'.cell? ⟨k.R,9,none⟩=some (ι s.clock):=λx=>by rw[<-ed.o];exact qb (x.h.blk bP.o.blk aJ) 9 rfl
   have dW:=λ(x:qz (λb=>b=ax∨aA.ownBlock=some b) wc)=>β0 (x.h.blk aE.o.blk dC)
   clear bd bi cn bz fb eD dA dB;obtain⟨ab,dh⟩:=ν ((jP t2.buf n s.clock id).2);have cD:=κ dh;clear dh
   go_upto_region 20 with fail
   refine QN (λb=>b=ax∨aA.ownBlock=some b) wc 11 11 [10] ?_
   refine Nx ?_
   (refine Ql ?_;intro K H)
   have cL:=κ (CG t2.buf aE.o.ok ax aA n s.clock id bK.o _ (aE.o.buf.on (qa.drewN wc 1)));rw[cD.o] at cL
   (with_reducible refine cL.o.mono ?_)
   rintro e cv ⟨rfl,v14,st⟩;have dK:Hid (qg (λb=>b=ax∨aA.ownBlock=some b) wc cv):=κ (((qg.refl _ wc).drewN 1).trans st.away);have bE:=κ ((bP.o.on (qa.drewN wc 1)).strBuf (xD _ _ _) aH.o (aE.o.on (qa.drewN wc 1)) st (Eu aE.o.ok bK.o ec.o));simp only[Qy] at bE;have cV:=κ (et.o.trans ((bP.o.at.stay (qa.drewN wc 1)).trans bE.o.2));clear st;refine⟨_,rfl,qi dK.o,H _ _ ?_⟩;clear H K dU dW aJ dC;refine qA ?_;obtain⟨az,co⟩: ∃az:RmS,{N with strs:=qx N.strs (G,o2) {t2 with buf:=(jP t2.buf n s.clock id).1,askedOf:=aR}}=az:=⟨_,rfl⟩
   have cE:Hid (∀bW,(if yY ab=0 then az.book else xG az.book L id (yY ab))=bW->s.accept (G,o2) p={az with book:=bW}):=κ (by
    intro bW eL;have eU:Ye t p s.clock s.pks.length={t2 with buf:=(jP t2.buf n s.clock id).1,askedOf:=aR}:=by
     unfold Ye;rw[bn.o,<-bF.o,<-cR.o,<-eb.o,<-cG.o,<-bJ.o,<-bG.o,<-aI.o];cases t.any<;>simp
    have d:t2.buf=t.buf:=by rw[<-cR.o]
    have eH:prR (j8 G) s.tab.u=L:=by rw[<-ei.o,bN.o.1]
    rw[<-eL,<-co,<-en.o,<-em.o];unfold RmS.accept;rw[bM.o];simp only[Qy]
    rw[eU,bn.o,eH,cG.o,<-d,cD.o])
   have cP:Hid (∀w',qw (ap++ao) bh w'->qw F w w'):=κ (λw' h=>(eq.o.sub (F':=F) (λb d=>List.mem_append_right _ d)).trans (((er.o.sub (F':=F) (λb d=>by rw[<-aD.o];exact List.mem_append_right _ d))).trans (h.sub (λb d=>by rw[<-aD.o];simp[d]))));have cz:Hid (qI w0 cv k az (ap++ao)):=κ (by rw[<-co];exact bE.o.1);clear co
   go_upto_block 2 with fail
   go_cut [12] from 124 to 129 (λv ag=>v= ι (yY ab)/\yY ab≠0/\ag=cv)
   case first=>
    by_cases e10:ab=10
    ·subst e10;go_wp2;go_meet;exact⟨rfl,ζ,rfl⟩
    ·by_cases e9:ab=9
     ·subst e9;go_wp2;go_meet;exact⟨rfl,ζ,rfl⟩
     ·by_cases e8:ab=8
      ·subst e8;go_wp2;go_meet;exact⟨rfl,ζ,rfl⟩
      ·have fA:(ab==10)=false:=by simp[e10]
       have fC:(ab==9)=false:=by simp[e9]
       have fB:(ab==8)=false:=by simp[e8]
       have bI:Hid (yY ab=0):=κ (by unfold yY;rw[if_neg e10,if_neg e9,if_neg e8]);clear e10 e9 e8;go_wp2
       (refine bodyPost_ret (v:= .tuple #[]) ?re2 rfl ?_;(case re2=>simp[results,results137,go_sem]))
       exact⟨rfl,by rw[cE.o _ rfl,if_pos bI.o];exact(cz.o.sub (λb d=>List.mem_append_right _ d)).sub (λb d=>by rw[<-aD.o];exact List.mem_append_right _ d),cP.o _ cV.o⟩
   case rest=>
   obtain⟨rfl,di,rfl⟩:=hcut;have bI:=κ di;clear di;generalize yY ab=fv at *;go_wp2
   go_loopw [132] (λaG wr=> ∃j:Nat,j<=L.length/\aG= ι j/\qI w0 wr k {az with book:=xG az.book (L.take j) id fv} (ap++ao)/\qw (ap++ao) bh wr) (λaG _=>L.length-(intOf aG).toNat)
   case atStart=>exact⟨0,τ,rfl,cz.o,cV.o⟩
   case round=>
    obtain⟨j,eP,rfl,aW,ak⟩:=hrel;have ah:=κ aW;have av:=κ ak;clear aW ak;by_cases hlt:j<L.length
    ·have cj:(j:Int)<(L.length:Int):=by omega
     obtain⟨ev,fa,rfl,eM⟩:=cN.o wr (λb d=>av.o.2 b (by simp[d])) j hlt;have bO:Hid (L.take (j+1)=L.take j++[L[j]]):=κ (by rw[List.take_add_one,List.getElem?_eq_getElem hlt];rfl);generalize L[j]=x at *;obtain⟨fj,fm,aL⟩:=ah.o.blk;have ew:=β0 aL;clear aL
     go_wp2_with (go_at_call 128;(go_call Xt ah.o x id fv as e cw ⟨rfl,aU,bc,bs⟩;have U:=κ aU;have aj:=κ bc;clear aU bc bs))
     go_roundw
     case rel=>exact⟨j+1,τ,by go_num,by have:=U.o;unfold xG at this ⊢;rw[bO.o,List.foldl_append];exact this,av.o.trans aj.o⟩
     case measure=>simp[intOf];omega
    ·obtain rfl:j=L.length:=by omega
     have cj: ¬(L.length:Int)<(L.length:Int):=by omega
     rw[List.take_length] at ah;go_wp2
     (refine bodyPost_end (v:= .tuple #[]) ?re1 rfl ?_;(case re1=>simp[results,results137,go_sem]))
     exact⟨rfl,by rw[cE.o _ rfl,if_neg bI.o];exact(ah.o.sub (λb d=>List.mem_append_right _ d)).sub (λb d=>by rw[<-aD.o];exact List.mem_append_right _ d),cP.o _ av.o⟩
end
def SmS (s:RdS):Prop:=Byt s.1/\s.1.length<=200
theorem SmS.tk {s:RdS} (h:SmS s) (n:Int):SmS (tkS s n):=⟨h.1.drop _,Nat.le_trans (uN s n) h.2⟩
theorem SmS.wr {s:RdS} (h:SmS s) (x:Int):SmS (wrS s x):=⟨by unfold wrS;split;exact h.1;exact xh,Nat.le_trans (vH s x) h.2⟩
theorem SmS.ss: ∀(n:Nat) {s:RdS},SmS s->SmS (j9 n s).2
 | 0,_,h=>h
 | n+1,_,h=>(SmS.ss n h).tk 4
theorem Kh {b:List Int} (M:Byt b) (N: ¬(200:Int)<b.length):U16 (jl b).1.sq/\Byt (jl b).1.pl/\(jl b).1.pl.length<=200:=by
 have G:SmS (b,0):=⟨M,by show b.length<=200;omega⟩;have I:SmS (s5H b):=((((G.tk 1).tk 1).tk 2).tk 4).tk 4;have J:SmS (yy (fH b) (s5H b)):=by
  unfold yy;split
  ·exact I.wr 2
  ·exact I
 have d:SmS (yj (fH b) (yy (fH b) (s5H b))).2:=by
  unfold yj;split
  ·exact(((SmS.ss _ J).tk 2).tk 2).tk _
  ·exact SmS.ss _ J
 unfold jl;rw[if_neg N];unfold JJ;split
 ·refine⟨?_, ?_⟩
  ·have H:=JH (s:=s2H b) ((G.tk 1).tk 1).1 2 ζ;exact⟨H.1,by have:=H.2;show num (tkB (s2H b).1 ((2:Nat):Int))<=65535;omega⟩
  ·show Byt (vB _ _).1/\(vB _ _).1.length<=200;unfold vB;split
   ·exact⟨xh,η⟩
   ·split
    ·split
     ·unfold xL;split
      ·exact⟨xh,η⟩
      ·split
       ·exact⟨xh,η⟩
       ·exact⟨d.1.take _,by simp only[List.length_take];have:=d.2;omega⟩
     ·exact⟨xh,η⟩
    ·exact d
 ·exact⟨⟨Int.le_refl 0,by show (0:Int)<=65535;omega⟩,xh,Nat.zero_le _⟩
theorem IR (b:List Int):Zd b=Ve b:=by
 unfold Zd Ve;rw[Bool.and_assoc]
section
variable {T:Nat->Tg} {w0 w w':World} {k:RmK} {vp vr:Value} {s:RmS} {F:List Nat}
theorem My (h:RmX T w0 w k vp vr s F) {b:List Int} {q:List (List Int)} (ah:s.queue=b::q):
  Calls prog 134 #[γ k.RQ] w λe w'=> ∃d G,e= .returned (.tuple #[δ d b.length G,true])/\SlI .u8 w' (δ d b.length G) b/\qI w0 w' k {s with queue:=q} F/\qw F w w':=by
 obtain⟨f,Q,Y,ac,O,U,css,g,a⟩:=h.que;obtain⟨t1,t2,_⟩:=h.all .queue;rw[ah] at a
 match Q,a with
 | c::Q,a=>
  obtain⟨J,aa⟩:=a;have ab:=J;obtain⟨v,rfl,⟨d,G,rfl,_⟩,H⟩:=J.read;refine(MY w _ _ _ f d _ G Q Y ac O U css g).mono ?_;rintro e w' ⟨rfl,⟨ad,g'⟩,N⟩;have M:qg (λb=>T b≠ .data) w w':=N.mono λb H=>by
   rcases H with rfl | rfl
   ·rw[t1];simp
   ·rw[t2];simp
  obtain⟨ae,af⟩:=h.ring (q:=q) N (λD ag=>⟨_,Q,Y,ad,O,U,_,g',aa.mono λc y ai=>(ai.step M).other λb H=>(ag b H).elim Or.inl (λx=>Or.inl (by rw[h.fresh b x];simp))⟩);obtain⟨v2,I,s2,_⟩:=ab w' M;injection I with I
  subst I;exact⟨d,G,rfl,s2,ae,af⟩
structure Ia (s:RmS):Prop where
 subs:zc s
 pub:Zy s
 malf:0<=s.cnt.malf/\s.cnt.malf<=1000000000
 told:0<=s.cnt.told/\s.cnt.told<=1000000000
 strange:0<=s.cnt.strange/\s.cnt.strange<=1000000000
 acc:0<=s.cnt.acc/\s.cnt.acc<=1000000000
 pks:s.pks.length<=1000000
 clock:xz s.clock
 strs: ∀o t,qh s.strs o=some t->(t.any=true->xz t.great)/\ ∀sq,U16 sq->xz (yV t sq)
 orgs: ∀x o,qh s.tab.o x=some o->(qh s.strs o).isSome=true
 queue: ∀b∈s.queue,Byt b/\b.length<=1000000
 ids: ∀o t,qh s.strs o=some t-> ∀h∈t.buf.holds,0<=h.2.2/\h.2.2<(s.pks.length:Int)
 pkok: ∀a∈s.pks,uf a.pk/\uj a.pk
 owes: ∀x id,qh s.book (x,id)=some 0->(qh s.lanes x).isSome=true
theorem GO {w:World} {v:Value} {b:List Int} (d:SlI .u8 w v b) (G:Byt b):Calls prog 14 #[v] w (yS (jl b) w):=by
 by_cases hl:(200:Int)<b.length
 ·exact Jc v b w d hl
 ·exact Qd v b w d G hl
theorem Im (h:qI w0 w k s F) (m:qa w w') {I G H:Value} {p:Pk} (M:PkS w' I G H p) (n: ∀b,(I.ownBlock=some b∨G.ownBlock=some b∨H.ownBlock=some b)->w.heap.size<=b):
  ∃Fn,qI w0 w' k s (Fn++F)/\DT (· ∈Fn) I G H p/\ ∀g∈Fn,g∉F:=by
 obtain⟨T,vp,ac,x⟩:=h;have key: ∀{O:IntKind} {v:Value} {l:List Int},SlI O w' v l->v∈[I,G,H]->(∀b,v.ownBlock=some b->w.heap.size<=b)->l≠[]-> ∀g,v.ownBlock=some g->g∈([I,G,H].filterMap Value.ownBlock).filter (λb=>decide (w.heap.size<=b/\b<w'.heap.size)):=by
  intro O v l ab aa Y U g J;rw[List.mem_filter];exact⟨List.mem_filterMap.2 ⟨v,aa,J⟩,decide_eq_true ⟨Y g J,ab.old U J⟩⟩
 have N: ∀b∈([I,G,H].filterMap Value.ownBlock).filter (λb=>decide (w.heap.size<=b/\b<w'.heap.size)),w.heap.size<=b/\b<w'.heap.size:=λb d=>of_decide_eq_true (List.mem_filter.1 d).2
 exact⟨_,⟨T,vp,ac,x.adds m N⟩,⟨key M.s η (λb d=>n b (Or.inl d)),key M.e η (λb d=>n b (Or.inr (Or.inl d))),key M.l η (λb d=>n b (Or.inr (Or.inr d)))⟩,λg J hF=>by
  have ad:=(N g J).1;have ae:=(x.law g hF).2.2
  omega⟩
theorem Mx (bZ:qI w0 w k s F) (aQ:Ia s) {b:List Int} {q:List (List Int)} (ax:s.queue=b::q) (w1 w2:Int) (acc:Bool):
  Calls prog 85 #[γ k.R,θ #[ι w1,ι w2],acc] w λe w'=>e= .returned (.tuple #[])/\qI w0 w' k s.read F/\qw F w w':=by
 obtain⟨T,vp,cg,h⟩:=bZ;obtain⟨W1,aN⟩:=ν (w.alloc (.cells #[ι w1,ι w2] 36));have bh:Hid (qa w W1):=κ (by rw[<-aN];exact qa.alloc _ _);have bg:=κ (h.on bh.o);have an:=κ (h.at.stay bh.o);have G:=κ aQ;obtain⟨bt,bu⟩:=aQ.queue b (by rw[ax];exact List.mem_cons_self);have aj:=κ (And.intro bt bu);obtain⟨sq,ay⟩: ∃sq:RmS,{s with queue:=q}=sq:=⟨_,rfl⟩;have O:=κ ay;have bf:=κ (My bg.o ax);rw[ay] at bf;have cj:=β10 bg.o.blk;have ae:Hid (s.read=if Ve b then sq.tell b else sq.media b):=κ (by unfold RmS.read;rw[ax];simp only[ay]);clear h aQ ax bt bu ay;obtain⟨c,aO⟩:=ν (Ve b);have bO:Hid (Zd b=c):=κ (by rw[IR,aO]);rw[aO] at ae;have aJ:Hid (zc sq/\Zy sq/\(0<=sq.cnt.malf/\sq.cnt.malf<=1000000000/\0<=sq.cnt.told/\sq.cnt.told<=1000000000)):=κ (by rw[<-O.o];exact⟨⟨G.o.subs.keys,G.o.subs.lane,G.o.subs.few⟩,G.o.pub,G.o.malf.1,G.o.malf.2,G.o.told.1,G.o.told.2⟩);clear aO;obtain⟨bp,aP⟩:=ν ((jl b).2);obtain⟨p,aR⟩:=ν ((jl b).1);have aI:=κ aP;have be:=κ aR;have aK:=κ (λw' v (sl:SlI .u8 w' v b)=>GO sl aj.o.1);unfold yS at aK;rw[aP,aR] at aK;clear aP aR
 go_enter func85,ntmps85
 go_upto_region 1 with fail
 (try rw[aN])
 clear aN
 go_upto_if 21 with (first | (go_at_call 134;(go_call bf.o as e bF ⟨cq,cr,rfl,bD,bs,t3⟩;have aL:=κ bD;have ai:=κ bs;have bm:=κ t3;clear bD bs t3)) | (go_at_call 15;(go_call V3 _ b bF aL.o as e w4 ⟨rfl,bY⟩;rw[bO.o];obtain rfl:=bY)))
 cases c with
 | true=>
  go_wp2_with (go_at_call 135;(go_call Mt ai.o aJ.o.1 aJ.o.2.1 b _ aL.o aj.o.1 aj.o.2 aJ.o.2.2 as e w5 ⟨rfl,aq,t5⟩;have bM:=κ aq;have bW:=κ t5;clear aq t5))
  (refine bodyPost_ret (v:= .tuple #[]) ?re2 rfl ?_;(case re2=>simp[results,results85,go_sem]))
  exact⟨rfl,by rw[ae.o];exact bM.o,an.o.trans (bm.o.trans bW.o)⟩
 | false=>
  go_upto_if 31 with (go_at_call 14;(go_call aK.o _ _ aL.o as e w5 ⟨cz,cv,cw,rfl,ah,bx,bA⟩;obtain⟨os,aC,rfl,_⟩:=id ah.s;obtain⟨aD,ke,rfl,_⟩:=id ah.e;obtain⟨aE,aB,rfl,_⟩:=id ah.l;have bi:=κ bx;have bk:=κ ah;have bR:=κ bA;clear bx bA ah))
  obtain⟨W6,ac⟩:=ν (w5.alloc (.cells (Γh p os aC aD ke aE aB) 55));have bj:Hid (qa bF W6):=κ (by rw[<-ac];exact bi.o.al _);obtain⟨Fn,aq,cf,bX⟩:=Im ai.o bi.o bk.o bR.o;have bQ:=κ (aq.on (by rw[<-ac];exact qa.alloc _ _:qa w5 W6));have bS:=κ cf;have bK:=κ bX;have bU:=κ (bk.o.keep (by rw[<-ac];exact qa.alloc _ _:qa w5 W6));have aZ:Hid (W6.heap[w5.heap.size]? =some (.cells (Γh p os aC aD ke aE aB) 55 (0,0))):=κ (by rw[<-ac];exact qj _ _);have bn:=κ (bm.o.trans (ai.o.stay bj.o))
  (try rw[ac])
  clear ac;by_cases he:bp=0
  ·subst he;have ak:Hid (sq.media b=match qh sq.tab.o p.sc with | none=>{sq with cnt:={sq.cnt with strange:=sq.cnt.strange+1}} | some o=>sq.accept o p):=κ (by unfold RmS.media;rw[aI.o,if_pos rfl,be.o];rfl)
   go_upto_region 7 with fail
   obtain⟨T,vp,cg,bH⟩:=bQ.o;have ap:=κ bH;have am:=κ (λw' (m:qa W6 w')=>Le (ap.o.tab.more m) p.sc);have bJ:=λ(x:qt W6)=>β11 (qc x.h ap.o.blk)
   have bT:=λ(x:qt W6)=>β4 (qc x.h aZ.o)
   clear bH;obtain⟨aa,ag⟩:=ν (qh sq.tab.o p.sc);obtain⟨M,au⟩:=ν ((aa.getD (0,0)).1);obtain⟨o2,av⟩:=ν ((aa.getD (0,0)).2);obtain⟨bB,aw⟩:=ν (aa.isSome);rw[ag,au,av,aw] at am
   go_cut [10,11] from 41 to 51 (λv10 v11 bG=> ∃A,v10= γ A/\v11= μ bB/\bG.heap[A]? =some (.cells #[ι M,ι o2] 50 (0,0))/\qa W6 bG)
   case first=>
    refine zB W6 14 (.op 0 false (.op 1 false (.op 2 false (.op 3 false (.op 4 false (.op 5 false (.op 6 false (.br [7,11] λk=>if k=7 then .op 8 false (.op 9 false (.op 10 false (.op 11 true (.op 12 true (.op 13 false (.done)))))) else .op 7 true (.op 8 false (.op 9 false (.op 10 false (.op 12 true (.op 13 false (.done)))))))))))))) ξ ξ ?_
    repeat (first | (refine jg rfl rfl (qk ρ) ?_) | (refine qH rfl rfl (qk ρ) ?_;intro K d;go_big_quiet_op;go_big_quiet_on))
    refine wP ζ ?_ ?_
    ·(refine qO rfl rfl ?_;intro K d;unfold jn;go_simp)
     refine(am.o _ (qa.drewN W6 1)).mono ?_;rintro e w8 ⟨rfl,bz⟩;have J:Hid (qa W6 w8):=κ ((qa.drewN W6 1).trans bz);clear bz;refine⟨_,rfl,qk J.o,d _ _ ?_⟩;clear d K
     repeat (first | (refine jg rfl rfl (qk J.o) ?_) | (refine qH rfl rfl (qk J.o) ?_;intro K d;go_big_quiet_op;go_big_quiet_on))
     (refine qO rfl rfl ?_;intro K d;unfold jn;go_simp)
     refine⟨qk (J.o.al _),d _ _ ?_⟩;clear d K;obtain⟨w9,aA⟩:=ν (w8.alloc (.cells #[ι 0,ι 0] 50));obtain⟨A,U⟩:=ν (w8.heap.size);have I:Hid (w9.heap[A]? =some (.cells #[ι 0,ι 0] 50 (0,0))):=κ (by rw[<-aA,<-U];exact qj w8 _);have Y:Hid (qa W6 w9):=κ (by rw[<-aA];exact J.o.al _);have ad:Hid (W6.heap.size<=A):=κ (by rw[<-U];exact J.o.size)
     (try rw[aA])
     (try rw[U])
     clear aA U;have z0:=β0 I.o;have aY:=β1 I.o;have aW:=qd I.o 0;have aX:=qd I.o 1
     repeat (first | (refine jg rfl rfl (qk Y.o) ?_) | (refine qH rfl rfl (qk Y.o) ?_;intro K d;go_big_quiet_op;go_big_quiet_on))
     (refine qO rfl rfl ?_;intro K d;unfold jn;go_simp)
     have H:Hid (qa W6 ((w9.setCell ⟨A,0,none⟩ (ι M)).setCell ⟨A,1,none⟩ (ι o2))):=κ ((Y.o.st ad.o _).st ad.o _);have ab:=κ (qB (qp (qp I.o 0 (ι M)) 1 (ι o2)) (cs':= #[ι M,ι o2]) rfl);refine⟨qk H.o,d _ _ ?_⟩;clear d K z0 aY aW aX
     repeat (first | (refine jg rfl rfl (qk H.o) ?_) | (refine qH rfl rfl (qk H.o) ?_;intro K d;go_big_quiet_op;go_big_quiet_on))
     refine zg ?_;go_wp2;go_meet;exact⟨A,rfl,rfl,ab.o,H.o⟩
    ·(refine qO rfl rfl ?_;intro K d;unfold jn;go_simp)
     refine⟨qk ((qa.drewN W6 1).al _),d _ _ ?_⟩;clear d K;obtain⟨w8,az⟩:=ν ((W6.drewN 1).alloc (.cells #[ι 0,ι 0] 50));obtain⟨A,U⟩:=ν (W6.heap.size);have bI:Hid (w8.heap[A]? =some (.cells #[ι 0,ι 0] 50 (0,0))):=κ (by rw[<-az,<-U];exact qj (W6.drewN 1) _);have J:Hid (qa W6 w8):=κ (by rw[<-az];exact(qa.drewN W6 1).al _);have ad:Hid (W6.heap.size<=A):=κ (by rw[<-U];exact(qa.drewN W6 1).size)
     (try rw[az])
     (try rw[U])
     clear az U
     repeat (first | (refine jg rfl rfl (qk J.o) ?_) | (refine qH rfl rfl (qk J.o) ?_;intro K d;go_big_quiet_op;go_big_quiet_on))
     (refine qO rfl rfl ?_;intro K d;unfold jn;go_simp)
     refine(am.o _ J.o).mono ?_;rintro e w9 ⟨rfl,aU⟩;have Y:=κ (J.o.trans aU);have I:=κ (qc aU bI.o);clear aU;refine⟨_,rfl,qk Y.o,d _ _ ?_⟩;clear d K;have z0:=β0 I.o;have aY:=β1 I.o;have aW:=qd I.o 0;have aX:=qd I.o 1
     repeat (first | (refine jg rfl rfl (qk Y.o) ?_) | (refine qH rfl rfl (qk Y.o) ?_;intro K d;go_big_quiet_op;go_big_quiet_on))
     (refine qO rfl rfl ?_;intro K d;unfold jn;go_simp)
     have H:Hid (qa W6 ((w9.setCell ⟨A,0,none⟩ (ι M)).setCell ⟨A,1,none⟩ (ι o2))):=κ ((Y.o.st ad.o _).st ad.o _);have ab:=κ (qB (qp (qp I.o 0 (ι M)) 1 (ι o2)) (cs':= #[ι M,ι o2]) rfl);refine⟨qk H.o,d _ _ ?_⟩;clear d K z0 aY aW aX
     repeat (first | (refine jg rfl rfl (qk H.o) ?_) | (refine qH rfl rfl (qk H.o) ?_;intro K d;go_big_quiet_op;go_big_quiet_on))
     refine zg ?_;go_wp2;go_meet;exact⟨A,rfl,rfl,ab.o,H.o⟩
   case rest=>
   obtain⟨A,rfl,rfl,bo,bw⟩:=hcut;have ab:=κ bo;have H:=κ bw;clear bo bw bJ bT am;have ao:=κ (ap.o.on H.o);have bl:=κ (bn.o.trans ((ap.o.sub (F':=F) (λb af=>List.mem_append_right _ af)).at.stay H.o));cases bB with
   | false=>
    have cc:aa=none:=by
     cases aa with
     | none=>rfl
     | some o=>cases aw
    have aH:Hid (sq.media b={sq with cnt:={sq.cnt with strange:=sq.cnt.strange+1}}):=κ (by rw[ak.o,ag,cc]);have ce:0<=sq.cnt.strange/\sq.cnt.strange<=1000000000:=by rw[<-O.o];exact G.o.strange
    obtain⟨ct,cu⟩:=ce;have cl:=β18 ao.o.blk;have cn:=qd ao.o.blk 18;have ba:=κ (ao.o.at.cell 18 (ι (sq.cnt.strange+1)) (s':={sq with cnt:={sq.cnt with strange:=sq.cnt.strange+1}}) (λ_ _=>rfl) ⟨rfl,rfl,rfl,rfl,rfl,rfl,rfl,rfl,rfl⟩);go_wp2
    (refine bodyPost_ret (v:= .tuple #[]) ?re3 rfl ?_;(case re3=>simp[results,results85,go_sem]))
    exact⟨rfl,by rw[ae.o,if_neg ζ,aH.o];exact ba.o.1.sub (λb af=>List.mem_append_right _ af),an.o.trans (bl.o.trans (ba.o.2.sub (λb af=>List.mem_append_right _ af)))⟩
   | true=>
    obtain⟨o,ar⟩: ∃o,aa=some o:=by
     cases aa with
     | none=>cases aw
     | some o=>exact⟨o,rfl⟩
    have aM:o=(M,o2):=by rw[ar] at au av;rw[<-au,<-av];rfl
    have aH:Hid (sq.media b=sq.accept (M,o2) p):=κ (by rw[ak.o,ag,ar,aM]);have bv:(qh sq.strs (M,o2)).isSome=true:=by
     have N:=ag;rw[ar,aM] at N;rw[<-O.o] at N ⊢;exact G.o.orgs _ _ N
    obtain⟨t,aS⟩:=Option.isSome_iff_exists.1 bv
    obtain⟨aF,aV,bC⟩:=Kh aj.o.1 (by
     intro ca;have N:=aI.o;unfold jl at N;rw[if_pos ca] at N
     cases N)
    rw[be.o] at aF aV bC;have aT:(t.any=true->xz t.great)/\ ∀sq,U16 sq->xz (yV t sq):=by
     have N:=aS;rw[<-O.o] at N;exact G.o.strs _ _ N
    have bd:=κ (λ(cd:zc sq) (hck:xz sq.clock) (hlen:sq.pks.length<=1000000) (hcnt:0<=sq.cnt.acc/\sq.cnt.acc<=1000000000)=>FI ao.o.at cd M o2 aS p _ _ _ (bU.o.keep H.o) bS.o bK.o aF (aT.2 _ aF) aT.1 hck hlen hcnt aV τ);have bN:=κ (bd.o (by rw[<-O.o];exact⟨G.o.subs.keys,G.o.subs.lane,G.o.subs.few⟩) (by rw[<-O.o];exact G.o.clock) (by rw[<-O.o];exact G.o.pks) (by rw[<-O.o];exact G.o.acc));have a0:=β0 ab.o;have ch:=β1 ab.o;have bP:Hid (wc.rangeAt w5.heap.size 0 (Γh p os aC aD ke aE aB)):=κ (xy (qc H.o aZ.o));clear bd aT aF aV bC bv aS ar aM ag au av aw
    go_wp2_with (first | (refine wpList_load_mid rfl 55 (.tmp 8) rfl w5.heap.size 0 rfl (Γh p os aC aD ke aE aB) _ bP.o underlying55 rfl ξ ?_) | (go_at_call 137;(go_call bN.o as e cA ⟨rfl,bq,bE⟩;have bL:=κ bq;have bV:=κ bE;clear bq bE)))
    (refine bodyPost_end (v:= .tuple #[]) ?re1 rfl ?_;(case re1=>simp[results,results85,go_sem]))
    exact⟨rfl,by rw[ae.o,if_neg ζ,aH.o];exact bL.o,an.o.trans (bl.o.trans bV.o)⟩
  ·have ci:(bp != 0)=true:=by simp[he]
   have ak:Hid (sq.media b={sq with cnt:={sq.cnt with malf:=sq.cnt.malf+1}}):=κ (by unfold RmS.media;rw[aI.o,if_neg he]);clear he;have cb:0<=sq.cnt.malf/\sq.cnt.malf<=1000000000:=by rw[<-O.o];exact G.o.malf
   obtain⟨co,cp⟩:=cb;have bb:=κ (ai.o.on bj.o);obtain⟨cx,cy,aG⟩:=bb.o.blk;have ck:=β17 aG;have cm:=qd aG 17;clear aG;have bc:=κ (bb.o.cell 17 (ι (sq.cnt.malf+1)) (s':={sq with cnt:={sq.cnt with malf:=sq.cnt.malf+1}}) (λ_ _=>rfl) ⟨rfl,rfl,rfl,rfl,rfl,rfl,rfl,rfl,rfl⟩);go_wp2
   (refine bodyPost_ret (v:= .tuple #[]) ?re4 rfl ?_;(case re4=>simp[results,results85,go_sem]))
   exact⟨rfl,by rw[ae.o,if_neg ζ,ak.o];exact bc.o.1,an.o.trans (bn.o.trans bc.o.2)⟩
end
end Go.Proofs.YtdgippmmaponfaaGreat
