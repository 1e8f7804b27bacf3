/- Laws. -/
import Derived.Test.YtlmllmonabafjaaGreatDoorMg14
import Derived.Laws.IdiomStrings
import Derived.Defers
import Derived.Recover
import Derived.Laws.Concat
import Derived.Shelf.Strings.Split
import Derived.Shelf.Strings.OnBuilder
import Derived.Shelf.Strconv.Itoa3
import Derived.Shelf.LaysM
namespace Go.Proofs.YtlmllmonabafjaaGreatDoor
open Go.Value renaming bool->μ,slice->δ,pointer->π,agg->θ
open Go.IntKind renaming i64->ι,u8->υ,u16->φ,u32->ω,i32->χ,u64->ψ
open _root_.Go.Proofs.Tryz
set_option linter.unusedSimpArgs false
set_option maxHeartbeats 8000000
set_option linter.unusedVariables false
open Go.RowKit
set_option maxRecDepth 100000
section
variable {T:Nat->Tg} {w0 w w':World} {k:RmK} {vp vr:Value} {s:RmS} {F:List Nat}
theorem Ip (h:RmX T w0 w k vp vr s F):Calls prog 66 #[γ k.RQ] w λe w'=>e= .returned (ι s.queue.length)/\qa w w':=by
 obtain⟨f,Q,H,I,d,G,css,g,a⟩:=h.que;refine(Oa g).mono ?_;rintro e w' ⟨rfl,rfl⟩;exact⟨by rw[a.len],qa.refl _⟩
def vh (s:RmS) (i:Nat):List Int:=(subIds.take i).filter λx=>(qh s.lanes x).isSome
theorem Ut (s:RmS) (i:Nat):(vh s i).length<=6:=Nat.le_trans (List.length_filter_le _ _) (by rw[List.length_take];show min i 6<=6;omega)
theorem qV.low {α:Type} {n:Nat} {R:qJ α} {D:Nat->Prop} {base d e:Nat} {v:Value} {L:List α} (h:qV n R D w base e v L) (N:d<=base):qV n R D w d e v L:=by
 obtain⟨⟨xs,⟨G,H⟩,I⟩,J⟩:=h;refine⟨⟨xs,⟨G, ?_⟩,I⟩,J⟩;rcases H with h | ⟨g,cap,cur,e1,hg,rest⟩
 ·exact Or.inl h
 ·exact Or.inr ⟨g,cap,cur,e1,Nat.le_trans N hg,rest⟩
theorem Yh (h:RmX T w0 w k vp vr s F):Calls prog 26 #[γ k.R] w λe w'=> ∃v,e= .returned v/\qV 2 RO (λ_=>False) w' w.heap.size 37 v s.workers/\qa w w':=by
 obtain⟨aA,hi,ax,ay,az⟩:=info_parts (P:=prog) (e:=3) (z:= ι 0) (size:=1) (bytes:=8) ξ;have J:=κ h;have ab:=κ (Ut s);clear h
 go_enter func26,ntmps26
 go_wp2
 go_loopw [3,7] (λu O wr=> ∃i:Nat,i<=6/\O= ι i/\(∃ak aj ac,u= δ ak aj ac)/\wr.ownsRow w.heap.size 3 1 u (vh s i).length ((vh s i).map (Value.int .i64))/\qa w wr) (λ_ O _=>6-(intOf O).toNat)
 case atStart=>exact⟨0,τ,rfl,⟨_,_,_,rfl⟩,World.ownsRow_nil _ _ _ _,qa.refl _⟩
 case round=>
  obtain⟨i,aD,rfl,⟨ak,aj,ac,rfl⟩,ah,ag⟩:=hrel;have H:=κ ah;have d:=κ ag;clear ah ag;by_cases hlt:i<6
  ·have av:(i:Int)<6:=by omega
   have aa:=κ (Vu hlt);have aB:=β12 (qc d.o J.o.blk);have q:(Instr.lookup 90 (.map (some k.ML)) (ι (i:Int)) true).run prog wr= .ok (.tuple #[GB (qh k.LA (i:Int)),μ (qh k.LA (i:Int)).isSome]) wr:=xo (J.o.lnm.more d.o) (i:Int) true;have G:=(J.o.all (.lane (i:Int))).2;have aw:=ab.o i;cases hg:qh k.LA (i:Int) with
   | none=>
    rw[hg] at G q;have I:Hid (vh s (i+1)=vh s i):=κ (by unfold vh;rw[aa.o,List.filter_append,List.filter_cons,if_neg (by rw[<-G];decide)];simp);clear G hg;go_wp2;go_roundw
    case rel=>exact⟨i+1,τ,by go_num,⟨_,_,_,rfl⟩,by rw[I.o];exact H.o,d.o⟩
    case measure=>simp[intOf];omega
   | some p=>
    rw[hg] at G q;have I:Hid (vh s (i+1)=vh s i++[(i:Int)]):=κ (by unfold vh;rw[aa.o,List.filter_append,List.filter_cons,if_pos (by rw[<-G];rfl)];simp);obtain⟨N,af⟩:=ν (vh s i);rw[af] at I H aw;clear G hg af
    go_wp2_with (at_builtin;(refine qK _ rfl (.tmp 20) (.tmp 22) 107 rfl w.heap.size 3 aA (ι 0) 8 underlying107 hi ax ay az rfl _ .i64 N rfl (H.o.alloc _) _ [(i:Int)] rfl (SlI.lit .i64 wr [(i:Int)] 3 _ 1 _ η rfl η η) (by simp;omega) ζ (by have:=d.o.size;simp;omega) ?_;intro aG w6 U ae _;have ao:=κ U;have an:Hid (qa w w6):=κ (Below.grown (d.o.al _) ae (d.o.al _).size (λb au=>j8 H.o au));obtain⟨aE,aC,ad⟩:=xG U;rw[show (N++[(i:Int)]).length=N.length+1 from by simp] at ad;subst ad;clear U ae))
    go_roundw
    case rel=>exact⟨i+1,τ,by go_num,⟨_,_,_,rfl⟩,by rw[I.o];exact ao.o,an.o⟩
    case measure=>simp[intOf];omega
  ·obtain rfl:i=6:=by omega
   have av: ¬((6:Nat):Int)<6:=by omega
   have Y:=κ (KN (SlI.of_owns H.o (by have:=ab.o 6;omega)));have ap:Hid (yt (vh s 6)=s.workers):=κ rfl;rw[ap.o] at Y
   go_wp2_with (go_at_call 71;(go_call Y.o as e w2 ⟨aF,rfl,am,ai⟩;have aq:=κ (am.low d.o.size);have ar:=κ ai;clear am ai))
   go_ret;exact⟨_,rfl,aq.o,d.o.trans ar.o⟩
theorem Ei (h:RmX T w0 w k vp vr s F):Calls prog 26 #[γ k.R] w λe w'=> ∃d cap,e= .returned (δ d s.workers.length cap)/\ZB w' d s.workers/\qa w w':=by
 refine(Yh h).mono ?_;rintro e w' ⟨v,rfl,G,H⟩;obtain⟨d,cap,rfl,I⟩:=WC G;exact⟨d,cap,rfl,I,H⟩
theorem Mg (h:RmX T w0 w k vp vr s F) (aB:xz s.clock) (w1 w2:Int):
  Calls prog 27 #[γ k.R,θ #[ι w1,ι w2]] w λe w'=>e= .returned (μ (s.may (w1,w2)))/\qa w w':=by
 obtain⟨W1,U⟩:=ν (w.alloc (.cells #[ι w1,ι w2] 37));have M1:Hid (qa w W1):=κ (by rw[<-U];exact qa.alloc _ _);have aq:Hid (W1.heap[w.heap.size]? =some (.cells #[ι w1,ι w2] 37 (0,0))):=κ (by rw[<-U];exact qk w _);have aw:=κ (h.on M1.o);have aO:=κ aB;obtain⟨c,Y⟩:=ν (decide ((w1,w2)∈s.workers));obtain⟨ay,am⟩:=ν (s.closed);have ae:Hid (s.may (w1,w2)=(c&&(if ay then !((qh s.ret (w1,w2)).getD false) else s.mayOpen (w1,w2)))):=κ (by unfold RmS.may;rw[Y,am]);have aM:=κ am;have aQ:=κ (λ(h:c=true)=>of_decide_eq_true (Y.trans h));have av:=κ (Ei (aw.o.on (qa.drewN W1 1)));have ah:=λ(x:qp W1)=>qc x.h aq.o
 have ac:=λx=>β0 (ah x);have ad:=λx=>β1 (ah x);clear ah
 have ar:Hid (∀w' aa cap,ZB w' aa s.workers->Calls prog 72 #[δ aa s.workers.length cap,θ #[ι w1,ι w2]] w' λe w''=>e= .returned (μ c)/\qa w' w''):=κ (λw' aa cap aU=>by rw[<-Y];exact Nz w1 w2 aU);clear h aB Y am
 go_enter func27,ntmps27
 go_upto_region 1 with fail
 (try rw[U])
 clear U;refine xY W1 5 [(0,false),(2,false),(1,true),(3,true),(4,false)] ξ ξ ?_
 refine Qq2 ?_
 (refine Ql ?_;intro K d)
 (with_reducible refine av.o.mono ?_)
 rintro e aZ ⟨aa,cap,rfl,aI,aJ⟩;have aS:=κ aI;have ax:Hid (qa W1 aZ):=κ ((qa.drewN W1 1).trans aJ);clear aI aJ;refine⟨_,rfl,qj ax.o,d _ _ ?_⟩;clear d K
 (refine Ql ?_;intro K d)
 go_call ar.o _ _ _ aS.o as e w4 ⟨rfl,aK⟩;have G:Hid (qa W1 w4):=κ (ax.o.trans aK);clear aK;refine⟨_,rfl,qj G.o,d _ _ ?_⟩;clear d K
 iterate 1 (refine qD rfl rfl (qj G.o) ?_;intro K d;go_big_quiet_op;go_big_quiet_on)
 refine qv ?_;clear ac ad av ar;have H:=κ (aw.o.on G.o);have ab:=κ (qc G.o aq.o);have aT:=β7 H.o.blk;rw[aM.o] at aT;cases c with
 | false=>
  go_wp2;go_ret;exact⟨by rw[ae.o];rfl,M1.o.trans G.o⟩
 | true=>
  have aR:=κ (mem_workers.1 (aQ.o rfl));cases ay with
  | true=>
   have O:Hid (s.may (w1,w2)= !((qh s.ret (w1,w2)).getD false)):=κ (by rw[ae.o];rfl);obtain⟨aX,ap⟩:=ν ((qh s.ret (w1,w2)).getD false);rw[ap] at O;have bb:=λ(x:qp w4)=>β8 (qc x.h H.o.blk)
   have ai:=λ(x:qp w4)=>qc x.h ab.o
   have ac:=λx=>β0 (ai x);have ad:=λx=>β1 (ai x);clear ai
   have bd: ∀x:qp w4,(Instr.lookup 87 (.map (some k.M1)) (θ #[ι w1,ι w2]) false).run prog x.w'= .ok (μ aX) x.w':=λx=>by rw[<-ap];exact VP (H.o.retm.more x.h) (w1,w2)
   clear ap
   go_upto_region 4 with fail
   refine Qn w4 8 8 [] ?_
   refine Qq8 ?_
   refine qv ?_;go_wp2;go_ret;exact⟨by rw[O.o];rfl,(M1.o.trans G.o).dr 1⟩
  | false=>
   have O:Hid (s.may (w1,w2)=s.mayOpen (w1,w2)):=κ (by rw[ae.o];rfl);have be:=β0 ab.o;by_cases e0:w1=0
   ·subst e0;have I:Hid (s.may (0,w2)=decide (0<s.queue.length)):=κ (by rw[O.o];unfold RmS.mayOpen;rw[if_pos rfl]);have bf:=β10 H.o.blk;have aN:=κ (Ip H.o)
    go_wp2_with (go_at_call 66;(go_call aN.o as e w5 ⟨rfl,J⟩;have N:=κ J;clear J))
    go_ret;exact⟨jf (by rw[I.o,Bool.eq_iff_iff]),M1.o.trans (G.o.trans N.o)⟩
   ·by_cases e1:w1=1
    ·subst e1;have I:Hid (s.may (1,w2)=s.ready.isSome):=κ (by rw[O.o];unfold RmS.mayOpen;rw[if_neg η,if_pos rfl]);have ag:=κ (AJ H.o aO.o);obtain⟨aW,aD⟩:=ν (s.readyO);obtain⟨bl,ao⟩:=ν (s.ready.isSome);rw[aD,ao] at ag;rw[ao] at I;clear aD ao;obtain⟨bj,bk⟩:=aW;simp only at ag
     go_wp2_with (go_at_call 73;(go_call ag.o as e w5 ⟨rfl,J⟩;have N:=κ J;clear J))
     go_ret;exact⟨by rw[I.o];rfl,(M1.o.trans (G.o.trans N.o)).al _⟩
    ·have aV:(w1=2∨w1=3∨w1=4)/\(qh s.lanes w2).isSome=true:=by
      rcases aR.o with e | e | e
      ·injection e with e3 e4
       exact absurd e3 e0
      ·injection e with e3 e4
       exact absurd e3 e1
      ·exact⟨e.1,e.2.2⟩
     obtain⟨aG,aH⟩:=aV;obtain⟨l,an⟩:=Option.isSome_iff_exists.1 aH;obtain⟨p,aC,az⟩:=H.o.laneAt an;have I:Hid (s.may (w1,w2)=zp l (j7 w1)):=κ (by rw[O.o];unfold RmS.mayOpen;simp only[if_neg e0,if_neg e1,an]);have aF:j7 w1=1∨j7 w1=2∨j7 w1=3:=by rcases aG with rfl | rfl | rfl<;>decide
     obtain⟨aY,aE⟩:=ν (j7 w1);have au:=κ (λw'=>Ye w1 w2 w');have af:=κ (λw' (m:qa w4 w')=>IR (az.on m) (j7 w1) aF);rw[aE] at au af I;obtain⟨bi,aA⟩:=ν (zp l aY);rw[aA] at af I;have aP:=κ aC;have bg:(w1==0)=false:=by simpa using e0
     have bh:(w1==1)=false:=by simpa using e1
     clear aE aA aF az an aH aG e0 e1 aC
     go_upto_region 11 with fail
     have ba:=λ(x:qp w4)=>β12 (qc x.h H.o.blk)
     have aj:=λ(x:qp w4)=>qc x.h ab.o
     have ac:=λx=>β0 (aj x);have ad:=λx=>β1 (aj x);clear aj
     have bc: ∀x:qp w4,(Instr.lookup 90 (.map (some k.ML)) (ι w2) false).run prog x.w'= .ok (γ p) x.w':=λx=>by
      have:=xo (H.o.lnm.more x.h) w2 false;rw[aP.o] at this;exact this
     refine Qn w4 11 11 [8,9] ?_
     refine Qq8 ?_
     (refine Ql ?_;intro K d)
     go_call au.o _ as e w5 ⟨rfl,J⟩;have N:Hid (qa w4 w5):=κ ((qa.drewN w4 1).trans J);clear J;refine⟨_,rfl,qj N.o,d _ _ ?_⟩;clear d K
     (refine Ql ?_;intro K d)
     go_call af.o _ N.o as e w6 ⟨rfl,aL⟩;have ak:Hid (qa w4 w6):=κ (N.o.trans aL);clear aL;refine⟨_,rfl,qj ak.o,d _ _ ?_⟩;clear d K
     iterate 1 (refine qD rfl rfl (qj ak.o) ?_;intro K d;go_big_quiet_op;go_big_quiet_on)
     refine qv ?_;go_wp2;go_ret;exact⟨by rw[I.o];rfl,M1.o.trans (G.o.trans ak.o)⟩
end
theorem Fl {b:Jb} (d:JOK b) (G:Int):JOK (zV b G).1:=by
 unfold zV;cases hb:b.holds with
 | nil=>exact d
 | cons h T=>
  simp only;split
  ·exact VT d hb
  ·exact d
theorem Fm {b:Jb} {d:Int} (h:jN b d=true): ∃x∈b.holds,(zV b d).2.2.1=x.2.2:=by
 unfold zV;cases hb:b.holds with
 | nil=>unfold jN at h;rw[hb] at h;cases h
 | cons x L=>
  simp only[h,if_true];exact⟨x,List.mem_cons_self,rfl⟩
theorem FQ (s:RmS) (o:Og) (i:Nat) {a:AcS} (h:s.pks.getD i ac0=a):s.item o (i:Int)=⟨i,o.2,zJ a.pk.pl,a.pk⟩:=by
 unfold RmS.item;rw[Int.toNat_natCast,h]
theorem Pr (d:ItS) {s:RmS} (h: ∀y i,qh s.book (y,i)=some 0->(qh s.lanes y).isSome=true) (x:Int): ∀y i,qh (s.put1 d x).book (y,i)=some 0->(qh (s.put1 d x).lanes y).isSome=true:=by
 intro y i;unfold RmS.put1;split
 ·cases hl:qh s.lanes x with
  | none=>exact h y i
  | some l=>
   have G:(qh s.lanes y).isSome=true->(qh (qw s.lanes x (jL l d).1) y).isSome=true:=λe=>by
    rw[qy];split
    ·rfl
    ·exact e
   simp only;split
   ·intro e;refine G (h y i ?_);simp only at e;rw[yj _ _ _ _ ζ] at e;split at e
    ·cases e
    ·exact e
   ·exact λe=>G (h y i e)
 ·exact h y i
theorem ZJ (d:ItS): ∀(L:List Int) {s:RmS},(∀y i,qh s.book (y,i)=some 0->(qh s.lanes y).isSome=true)-> ∀y i,qh (L.foldl (RmS.put1 d) s).book (y,i)=some 0->(qh (L.foldl (RmS.put1 d) s).lanes y).isSome=true
 | [],_,h=>h
 | x::L,_,h=>ZJ d L (Pr d h x)
section
variable {T:Nat->Tg} {w0 w w':World} {k:RmK} {vp vr:Value} {s:RmS} {F:List Nat}
theorem LJ (dE:qF w0 w k s F) (bw:Iy s) (w1 w2:Int) (acc:Bool):
  Calls prog 80 #[γ k.R,θ #[ι w1,ι w2],acc] w λe w'=>e= .returned (.tuple #[])/\qF w0 w' k s.order F/\qt F w w':=by
 obtain⟨T,vp,dL,h⟩:=dE;obtain⟨W1,aH⟩:=ν (w.alloc (.cells #[ι w1,ι w2] 37));have bR:Hid (qa w W1):=κ (by rw[<-aH];exact qa.alloc _ _);have aE:=κ (h.on bR.o);have bT:=κ (h.at.stay bR.o);have aN:=κ bw;have aT:=κ (AJ aE.o bw.clock);clear h bw;obtain⟨cy,bc⟩:=ν (s.ready);have aR:=κ bc;have e0:s.readyO=cy.getD (0,0):=by unfold RmS.readyO;rw[bc]
 rw[bc,e0] at aT;clear bc e0;cases cy with
 | none=>
  have bk:Hid (s.order=s):=κ (by unfold RmS.order;rw[aR.o])
  go_enter func80,ntmps80
  go_upto_region 1 with fail
  (try rw[aH])
  clear aH
  go_wp2_with (go_at_call 73;(go_call aT.o as e G ⟨rfl,aL⟩;have aF:=κ aL;clear aL))
  (refine bodyPost_ret (v:= .tuple #[]) ?re2 rfl ?_;(case re2=>simp[results,results80,go_sem]))
  exact⟨rfl,by rw[bk.o];exact(aE.o.on (aF.o.al _)).at,bT.o.trans (aE.o.at.stay (aF.o.al _))⟩
 | some o=>
  obtain⟨ao,o2⟩:=o;simp only[Option.getD_some,Option.isSome_some] at aT;have ca:=List.mem_of_find?_eq_some aR.o;have bb:s.readyAt (ao,o2)=true:=List.find?_some aR.o;obtain⟨t,aw⟩:=yB ca;have cf:jN t.buf s.clock=true:=by
   unfold RmS.readyAt at bb;rw[aw] at bb;exact bb
  have aU:=κ aw;have cV:=κ cf;clear ca bb aw cf;have bk:Hid (s.order=s.orderAt (ao,o2) t):=κ (by unfold RmS.order;rw[aR.o];simp only[aU.o])
  go_enter func80,ntmps80
  go_upto_region 1 with fail
  (try rw[aH])
  clear aH
  go_upto_region 3 with (go_at_call 73;(go_call aT.o as e G ⟨rfl,aL⟩;have aF:=κ aL;clear aL))
  obtain⟨Y,aX⟩:=ν (G.alloc (.cells #[ι ao,ι o2] 58));have bS:Hid (qa W1 Y):=κ (by rw[<-aX];exact aF.o.al _);have bg:Hid (Y.heap[G.heap.size]? =some (.cells #[ι ao,ι o2] 58 (0,0))):=κ (by rw[<-aX];exact qk _ _);have ch:W1.heap.size<=G.heap.size:=aF.o.size;have am:RmX T w0 Y k vp dL s ([G.heap.size]++F):=aE.o.adds bS.o (λb ac=>by simp at ac;subst ac;exact⟨ch,ql bg.o⟩)
  (try rw[aX])
  clear aX;have aV:=κ am;obtain⟨bE,ab,vb,cd,ar⟩:=am.strAt aU.o;have bP:=κ cd;have au:=κ ar;have cr:k.R≠ab:=λe=>by have:=ar.nb;rw[<-e,(am.all .room).1] at this;cases this
  have ct: ¬vb.ownBlock=some k.R:=λe=>by have:=(ar.nv _ e).1;rw[(am.all .room).1] at this;cases this
  have cq: ¬(k.R=ab∨vb.ownBlock=some k.R):=λe=>e.elim cr ct
  have cl:k.MS≠ab:=λe=>by have:=ar.nb;rw[<-e,(am.all .sts).1] at this;cases this
  have cm: ¬vb.ownBlock=some k.MS:=λe=>by have:=(ar.nv _ e).1;rw[(am.all .sts).1] at this;cases this
  have ck: ¬(k.MS=ab∨vb.ownBlock=some k.MS):=λe=>e.elim cl cm
  have co:G.heap.size≠ab:=λe=>by have:=ar.nb;rw[<-e,(am.law G.heap.size η).1] at this;cases this
  have cp: ¬vb.ownBlock=some G.heap.size:=λe=>by have:=(ar.nv _ e).1;rw[(am.law G.heap.size η).1] at this;cases this
  have cn: ¬(G.heap.size=ab∨vb.ownBlock=some G.heap.size):=λe=>e.elim co cp
  have cu: ¬(bE=ab∨vb.ownBlock=some bE):=λe=>e.elim (λe=>au.o.ne e) (λe=>(au.o.nv _ e).2 rfl)
  have bp:=λ(x:qu (λb=>b=ab∨vb.ownBlock=some b) Y)=>x.h.blk aV.o.blk cq
  have cI:=λx=>β13 (bp x);have cJ:=λx=>β9 (bp x);clear bp
  have bq:=λ(x:qu (λb=>b=ab∨vb.ownBlock=some b) Y)=>x.h.blk bg.o cn
  have cL:=λx=>β0 (bq x);have cM:=λx=>β1 (bq x);clear bq
  have cK:=λ(x:qu (λb=>b=ab∨vb.ownBlock=some b) Y)=>β0 (x.h.blk au.o.blk cu)
  have bh: ∀x:qu (λb=>b=ab∨vb.ownBlock=some b) Y,(Instr.lookup 91 (.map (some k.MS)) (θ #[ι ao,ι o2]) false).run prog x.w'= .ok (γ bE) x.w':=λx=>by
   have:=yf (aV.o.stm.away x.h ck) (ao,o2) false;rw[bP.o] at this;exact this
  clear am cd ar ch cr ct cl cm co cp;refine QN (λb=>b=ab∨vb.ownBlock=some b) Y 21 21 [13] ?_
  refine Oy ?_
  (refine Ql ?_;intro K d)
  obtain⟨id,aZ⟩:=ν ((zV t.buf s.clock).2.2.1);have cP:=κ aZ
  have bN:Hid (0<=id/\id<(s.pks.length:Int)):=κ (by
   obtain⟨x,dJ,e⟩:=Fm cV.o;rw[<-aZ,e]
   exact aN.o.ids _ _ aU.o x dJ)
  obtain⟨H,dF⟩:=Int.eq_ofNat_of_zero_le bN.o.1;subst dF;have dG:H<s.pks.length:=by have:=bN.o.2;omega
  have aQ:=κ (Hg t.buf au.o.ok ab vb s.clock aN.o.clock _ (au.o.buf.on (qa.drewN Y 1)));rw[aZ] at aQ;clear aZ
  (with_reducible refine aQ.o.mono ?_)
  rintro e w5 ⟨rfl,v5,st⟩;have bI:Hid (qg (λb=>b=ab∨vb.ownBlock=some b) Y w5):=κ (((qg.refl _ Y).drewN 1).trans st.away);have aA:=κ ((aV.o.on (qa.drewN Y 1)).strBuf aU.o bP.o (au.o.on (qa.drewN Y 1)) st (Fl au.o.ok s.clock));have bs:=κ ((aV.o.at.stay (qa.drewN Y 1)).trans aA.o.2);clear st;refine⟨_,rfl,qi bI.o,d _ _ ?_⟩;clear d K
  iterate 7 (refine qD rfl rfl (qi bI.o) ?_;intro K d;go_big_quiet_op;go_big_quiet_on)
  refine qv ?_;clear cI cJ cL cM cK bh cq ck cn cu;obtain⟨ad,bd⟩: ∃ad:RmS,{s with strs:=qw s.strs (ao,o2) {t with buf:=(zV t.buf s.clock).1}}=ad:=⟨_,rfl⟩;have bQ:=κ bd;rw[bd] at aA;have aO:Hid (ad.pks=s.pks):=κ (by rw[<-bd]);have bv:H<ad.pks.length:=by rw[aO.o];exact dG
  obtain⟨dM,dT,dV,bG⟩:=aA.o.1;obtain⟨g,cap,os,N,O,J,ke,I,rfl,dS,dP,bX,cg⟩:=bG.pkRow bv;have dA:=κ bG;have aS:=κ cg;have bM:=κ bX;have dR:(ad.pks.length:Int)=s.pks.length:=by rw[aO.o]
  clear bd bG cg bX;obtain⟨a,aI⟩:=ν (ad.pks[H]);have bL:=κ aI;simp only[aI] at aS bM;clear aI;have dC:=β14 dA.o.blk
  have cU:Hid (w5.rangeAt g (H* 13+3) (Γh a.pk os J N ke O I)):=κ (λj v dI=>by
   rw[Nat.add_assoc]
   exact bM.o (3+j) v (by rw[Nat.add_comm];exact dI))
  go_upto_region 5 with (refine wpList_load_mid rfl 63 (.tmp 48) rfl g (H* 13+3) rfl (Γh a.pk os J N ke O I) _ cU.o underlying63 rfl ξ ?_)
  obtain⟨W6,aY⟩:=ν (w5.alloc (.cells (Γh a.pk os J N ke O I) 63));have ak:Hid (qa w5 W6):=κ (by rw[<-aY];exact qa.alloc _ _);have cD:Hid (W6.heap[w5.heap.size]? =some (.cells (Γh a.pk os J N ke O I) 63 (0,0))):=κ (by rw[<-aY];exact qk _ _);have cG:=κ (bs.o.blk η bg.o)
  (try rw[aY])
  clear aY dC;have dx:=κ aS.o.pk;have aP:=κ (aN.o.pkok a (by rw[<-bL.o];rw[<-aO.o];exact List.getElem_mem bv));obtain⟨af,bx⟩:=ν (zJ a.pk.pl);have bj:=κ (λw' (m:qa w5 w')=>Jo _ a.pk.pl w' (dx.o.l.keep m) aP.o.1.pl aP.o.2.l);rw[bx] at bj;have cQ:=κ bx;clear bx;obtain⟨U,bZ⟩: ∃U:ItS,(⟨H,o2,af,a.pk⟩:ItS)=U:=⟨_,rfl⟩;have aM:=κ bZ;clear bZ
  have cO:Hid (s.orderAt (ao,o2) t=subIds.foldl (RmS.put1 U) ad):=κ (by
   have aI:s.pks.getD H ac0=a:=by
    rw[<-aO.o,List.getD_eq_getElem?_getD,List.getElem?_eq_getElem bv];exact bL.o
   unfold RmS.orderAt
   rw[cP.o,bQ.o,FQ s (ao,o2) H aI,<-aM.o,<-cQ.o])
  have cT:Hid (∀y i,qh ad.book (y,i)=some 0->(qh ad.lanes y).isSome=true):=κ (by rw[<-bQ.o];exact aN.o.owes);have dz:Hid (qt F w Y):=κ (bT.o.trans (aE.o.at.stay bS.o));have dk:=λ(x:qp W6)=>β1 (qc (ak.o.trans x.h) cG.o)
  have ah:=λ(x:qp W6)=>qc x.h cD.o
  have dl:=λx=>β0 (ah x);have dm:=λx=>β1 (ah x);have dn:=λx=>β2 (ah x);have dp:=λx=>β3 (ah x);have dq:=λx=>β4 (ah x);have ds:=λx=>β5 (ah x);have dt:=λx=>β6 (ah x);have du:=λx=>β7 (ah x);have dv:=λx=>β8 (ah x);have dw:=λx=>β9 (ah x);clear ah
  go_cut [12] from 50 to 90 (λv bF=> ∃A:Nat,v= γ A/\RmP (acC a (δ os a.pk.ss.length J) (δ N a.pk.ex.length ke) (δ O a.pk.pl.length I)) a w0 bF k ad ([A]++([G.heap.size]++F))/\qt ([G.heap.size]++F) Y bF/\bF.heap[A]? =some (.cells #[ι H,ι o2,af,a.pk.mr,υ a.pk.ty,φ a.pk.sq,ω a.pk.st,ω a.pk.sc,δ os a.pk.ss.length J,a.pk.has,φ a.pk.pr,δ N a.pk.ex.length ke,δ O a.pk.pl.length I] 253 (0,0)))
  case first=>
   refine zC W6 9 (.op 0 false (.op 1 false (.op 2 false (.op 3 false (.op 4 false (.op 6 false (.br [5,8] λk=>if k=5 then .op 7 false (.op 8 true (.op 9 true (.done))) else .op 5 true (.op 7 false (.op 9 true (.done)))))))))) ξ ξ ?_
   repeat (first | (refine jd rfl rfl (qj ρ) ?_) | (refine qE rfl rfl (qj ρ) ?_;intro K d;go_big_quiet_op;go_big_quiet_on))
   refine wR ζ ?_ ?_
   ·(refine qP rfl rfl ?_;intro K d;unfold jl;go_simp)
    refine(bj.o _ (ak.o.trans (qa.drewN W6 1))).mono ?_;rintro e w8 ⟨rfl,cj⟩;have ai:Hid (qa W6 w8):=κ ((qa.drewN W6 1).trans cj);clear cj;refine⟨_,rfl,qj ai.o,d _ _ ?_⟩;clear d K
    repeat (first | (refine jd rfl rfl (qj ai.o) ?_) | (refine qE rfl rfl (qj ai.o) ?_;intro K d;go_big_quiet_op;go_big_quiet_on))
    (refine qP rfl rfl ?_;intro K d;unfold jl;go_simp)
    refine⟨qj (ai.o.al _),d _ _ ?_⟩;clear d K;obtain⟨w9,bf⟩:=ν (w8.alloc (.cells Γa 253));obtain⟨A,an⟩:=ν (w8.heap.size);have az:Hid (w9.heap[A]? =some (.cells Γa 253 (0,0))):=κ (by rw[<-bf,<-an];exact qk w8 _);have aq:Hid (qa W6 w9):=κ (by rw[<-bf];exact ai.o.al _);have ay:Hid (W6.heap.size<=A):=κ (by rw[<-an];exact ai.o.size)
    (try rw[bf])
    (try rw[an])
    clear bf an
    repeat (first | (refine jd rfl rfl (qj aq.o) ?_) | (refine qE rfl rfl (qj aq.o) ?_;intro K d;go_big_quiet_op;go_big_quiet_on))
    refine qP rfl rfl ?_;intro K d;have ae:=κ (aq.o.row ay.o #[ι H,ι o2,af,a.pk.mr,υ a.pk.ty,φ a.pk.sq,ω a.pk.st,ω a.pk.sc,δ os a.pk.ss.length J,a.pk.has,φ a.pk.pr,δ N a.pk.ex.length ke,δ O a.pk.pl.length I]);have aj:=κ (jK az.o #[ι H,ι o2,af,a.pk.mr,υ a.pk.ty,φ a.pk.sq,ω a.pk.st,ω a.pk.sc,δ os a.pk.ss.length J,a.pk.has,φ a.pk.pr,δ N a.pk.ex.length ke,δ O a.pk.pl.length I]);refine jZ 253 (.tmp 12) (.tmp 57) rfl A 253 _ #[ι H,ι o2,af,a.pk.mr,υ a.pk.ty,φ a.pk.sq,ω a.pk.st,ω a.pk.sc,δ os a.pk.ss.length J,a.pk.has,φ a.pk.pr,δ N a.pk.ex.length ke,δ O a.pk.pl.length I] az.o rfl rfl ξ rfl (by simp[Value.oneCell']) ?_;refine⟨qj ae.o,d _ _ ?_⟩;clear d K
    repeat (first | (refine jd rfl rfl (qj ae.o) ?_) | (refine qE rfl rfl (qj ae.o) ?_;intro K d;go_big_quiet_op;go_big_quiet_on))
    refine ze ?_;obtain⟨bt,av⟩:=ν (w9.setRow A #[ι H,ι o2,af,a.pk.mr,υ a.pk.ty,φ a.pk.sq,ω a.pk.st,ω a.pk.sc,δ os a.pk.ss.length J,a.pk.has,φ a.pk.pr,δ N a.pk.ex.length ke,δ O a.pk.pl.length I]);rw[av] at ae aj
    (try rw[av])
    clear av;have aC:Hid (RmP (acC a (δ os a.pk.ss.length J) (δ N a.pk.ex.length ke) (δ O a.pk.pl.length I)) a w0 bt k ad ([A]++([G.heap.size]++F))):=κ (aS.o.adds (ak.o.trans ae.o) (λb ac=>by simp at ac;subst ac;exact⟨Nat.le_trans ak.o.size ay.o,ql aj.o⟩));have aG:=κ (bs.o.trans (aA.o.1.stay (ak.o.trans ae.o)));go_wp2;go_meet;exact⟨_,rfl,aC.o,aG.o,aj.o⟩
   ·(refine qP rfl rfl ?_;intro K d;unfold jl;go_simp)
    refine⟨qj ((qa.drewN W6 1).al _),d _ _ ?_⟩;clear d K;obtain⟨w8,be⟩:=ν ((W6.drewN 1).alloc (.cells Γa 253));obtain⟨A,an⟩:=ν (W6.heap.size);have cE:Hid (w8.heap[A]? =some (.cells Γa 253 (0,0))):=κ (by rw[<-be,<-an];exact qk (W6.drewN 1) _);have ai:Hid (qa W6 w8):=κ (by rw[<-be];exact(qa.drewN W6 1).al _);have ay:Hid (W6.heap.size<=A):=κ (by rw[<-an];exact(qa.drewN W6 1).size)
    (try rw[be])
    (try rw[an])
    clear be an
    repeat (first | (refine jd rfl rfl (qj ai.o) ?_) | (refine qE rfl rfl (qj ai.o) ?_;intro K d;go_big_quiet_op;go_big_quiet_on))
    (refine qP rfl rfl ?_;intro K d;unfold jl;go_simp)
    refine(bj.o _ (ak.o.trans ai.o)).mono ?_;rintro e w9 ⟨rfl,bD⟩;have aq:=κ (ai.o.trans bD);have az:=κ (qc bD cE.o);clear bD;refine⟨_,rfl,qj aq.o,d _ _ ?_⟩;clear d K
    repeat (first | (refine jd rfl rfl (qj aq.o) ?_) | (refine qE rfl rfl (qj aq.o) ?_;intro K d;go_big_quiet_op;go_big_quiet_on))
    refine qP rfl rfl ?_;intro K d;have ae:=κ (aq.o.row ay.o #[ι H,ι o2,af,a.pk.mr,υ a.pk.ty,φ a.pk.sq,ω a.pk.st,ω a.pk.sc,δ os a.pk.ss.length J,a.pk.has,φ a.pk.pr,δ N a.pk.ex.length ke,δ O a.pk.pl.length I]);have aj:=κ (jK az.o #[ι H,ι o2,af,a.pk.mr,υ a.pk.ty,φ a.pk.sq,ω a.pk.st,ω a.pk.sc,δ os a.pk.ss.length J,a.pk.has,φ a.pk.pr,δ N a.pk.ex.length ke,δ O a.pk.pl.length I]);refine jZ 253 (.tmp 12) (.tmp 57) rfl A 253 _ #[ι H,ι o2,af,a.pk.mr,υ a.pk.ty,φ a.pk.sq,ω a.pk.st,ω a.pk.sc,δ os a.pk.ss.length J,a.pk.has,φ a.pk.pr,δ N a.pk.ex.length ke,δ O a.pk.pl.length I] az.o rfl rfl ξ rfl (by simp[Value.oneCell']) ?_;refine⟨qj ae.o,d _ _ ?_⟩;clear d K
    repeat (first | (refine jd rfl rfl (qj ae.o) ?_) | (refine qE rfl rfl (qj ae.o) ?_;intro K d;go_big_quiet_op;go_big_quiet_on))
    refine ze ?_;obtain⟨bt,av⟩:=ν (w9.setRow A #[ι H,ι o2,af,a.pk.mr,υ a.pk.ty,φ a.pk.sq,ω a.pk.st,ω a.pk.sc,δ os a.pk.ss.length J,a.pk.has,φ a.pk.pr,δ N a.pk.ex.length ke,δ O a.pk.pl.length I]);rw[av] at ae aj
    (try rw[av])
    clear av;have aC:Hid (RmP (acC a (δ os a.pk.ss.length J) (δ N a.pk.ex.length ke) (δ O a.pk.pl.length I)) a w0 bt k ad ([A]++([G.heap.size]++F))):=κ (aS.o.adds (ak.o.trans ae.o) (λb ac=>by simp at ac;subst ac;exact⟨Nat.le_trans ak.o.size ay.o,ql aj.o⟩));have aG:=κ (bs.o.trans (aA.o.1.stay (ak.o.trans ae.o)));go_wp2;go_meet;exact⟨_,rfl,aC.o,aG.o,aj.o⟩
  case rest=>
  obtain⟨A,rfl,cb,cz,bW⟩:=hcut;have aC:=κ cb;have aG:=κ cz;have aj:=κ bW;clear dk dl dm dn dp dq ds dt du dv dw cb cz bW;go_wp2
  go_loopw [58] (λbC wr=> ∃j:Nat,j<=6/\bC= ι j/\RmP (acC a (δ os a.pk.ss.length J) (δ N a.pk.ex.length ke) (δ O a.pk.pl.length I)) a w0 wr k ((subIds.take j).foldl (RmS.put1 U) ad) ([A]++([G.heap.size]++F))/\qt ([A]++([G.heap.size]++F)) wc wr) (λbC _=>6-(intOf bC).toNat)
  case atStart=>exact⟨0,τ,rfl,aC.o,qt.refl _ _⟩
  case round=>
   obtain⟨j,dQ,rfl,ce,aw⟩:=hrel;have aD:=κ ce;have bo:=κ aw;have cF:=κ (aw.blk η aj.o);clear aw;by_cases hlt:j<6
   ·have dH:(j:Int)<6:=by omega
    have bn:=κ (Q5 hlt);have cS:=κ (ZJ U (subIds.take j) cT.o);generalize ci:(subIds.take j).foldl (RmS.put1 U) ad=sj at *;have bm:=κ ci;clear ci;obtain⟨dN,dU,dW,ax,_⟩:=ce;have dB:=β0 ax.blk;have bl:=κ (Is ax.bok (j:Int) (H:Int));obtain⟨dK,aJ⟩:=ν (decide (qh sj.book ((j:Int),(H:Int))=some 0));rw[aJ] at bl;cases dK with
    | false=>
     have aB:Hid (sj.put1 U (j:Int)=sj):=κ (by unfold RmS.put1;rw[<-aM.o];exact if_neg (of_decide_eq_false aJ));clear aJ ax
     go_wp2_with (go_at_call 135;(go_call bl.o as e ag ⟨rfl,aK⟩;have ap:=κ aK;clear aK))
     go_roundw
     case rel=>exact⟨j+1,τ,by go_num,by rw[bn.o,List.foldl_append,bm.o];show RmP _ a w0 _ k (sj.put1 U (j:Int)) _;rw[aB.o];exact aD.o.on ap.o,bo.o.trans (aD.o.at.stay ap.o)⟩
     case measure=>simp[intOf];omega
    | true=>
     have bB:qh sj.book ((j:Int),(H:Int))=some 0:=of_decide_eq_true aJ;obtain⟨l,ba⟩:=Option.isSome_iff_exists.1 (cS.o (j:Int) (H:Int) bB);obtain⟨pl,cc,_⟩:=ax.laneAt ba;have aB:Hid (sj.put1 U (j:Int)=if (jL l U).2.2.1 then {sj with lanes:=qw sj.lanes (j:Int) (jL l U).1,book:=jn sj.book (j:Int) (jL l U).2.1 6} else {sj with lanes:=qw sj.lanes (j:Int) (jL l U).1}):=κ (by unfold RmS.put1;rw[if_pos (by rw[<-aM.o];exact bB),ba]);have cR:=κ ba;have bO:=κ cc;have aW:=κ ax;clear aJ ax bB ba cc
     go_upto_region 10 with (go_at_call 135;(go_call bl.o as e ag ⟨rfl,aK⟩;have ap:=κ aK;clear aK))
     have dO:A≠k.R:=λe=>by have:=(aW.o.law A η).1;rw[e,(aW.o.all .room).1] at this;cases this
     have cH:=λ(x:qu (λb=>b≠k.R/\b≠k.ML/\b∉[A]++([G.heap.size]++F)) ag)=>β12 (x.h.blk (qc ap.o aW.o.blk) (λc=>c.1 rfl))
     have bh: ∀x:qu (λb=>b≠k.R/\b≠k.ML/\b∉[A]++([G.heap.size]++F)) ag,(Instr.lookup 90 (.map (some k.ML)) (ι (j:Int)) false).run prog x.w'= .ok (γ pl) x.w':=λx=>by
      have:=xo ((aW.o.lnm.more ap.o).away x.h (λc=>c.2.1 rfl)) (j:Int) false;rw[bO.o] at this;exact this
     have bJ: ∀x:qu (λb=>b≠k.R/\b≠k.ML/\b∉[A]++([G.heap.size]++F)) ag,x.w'.heap[A]? =some (.cells #[ι H,ι o2,af,a.pk.mr,υ a.pk.ty,φ a.pk.sq,ω a.pk.st,ω a.pk.sc,δ os a.pk.ss.length J,a.pk.has,φ a.pk.pr,δ N a.pk.ex.length ke,δ O a.pk.pl.length I] 253 (0,0)):=λx=>x.h.blk (qc ap.o cF.o) (λc=>c.2.2 η)
     have aa:=λ(x:qu (λb=>b≠k.R/\b≠k.ML/\b∉[A]++([G.heap.size]++F)) ag)=>bJ x
     have cX:=λx=>β0 (aa x);have cY:=λx=>β1 (aa x);have dc:=λx=>β2 (aa x);have dd:=λx=>β3 (aa x);have de:=λx=>β4 (aa x);have df:=λx=>β5 (aa x);have dg:=λx=>β6 (aa x);have dh:=λx=>β7 (aa x);have di:=λx=>β8 (aa x);have dj:=λx=>β9 (aa x);have cZ:=λx=>β10 (aa x);have da:=λx=>β11 (aa x);have db:=λx=>β12 (aa x);clear aa
     refine QN (λb=>b≠k.R/\b≠k.ML/\b∉[A]++([G.heap.size]++F)) ag 15 15 [7] ?_
     refine Qs7 ?_
     (refine Ql ?_;intro K d)
     obtain⟨l',bz⟩: ∃l',(jL l U).1=l':=⟨_,rfl⟩;obtain⟨cv,bA⟩:=ν ((jL l U).2.1);obtain⟨dr,bu⟩:=ν ((jL l U).2.2.1);obtain⟨dD,bY⟩:=ν ((jL l U).2.2.2)
     have aQ:Hid (Calls prog 136 #[γ pl,θ #[ι H,ι o2,af,a.pk.mr,υ a.pk.ty,φ a.pk.sq,ω a.pk.st,ω a.pk.sc,δ os a.pk.ss.length J,a.pk.has,φ a.pk.pr,δ N a.pk.ex.length ke,δ O a.pk.pl.length I]] (ag.drewN 1) λe w'=>e= .returned (.tuple #[ι cv,dr,ι dD])/\
       RmP (acC a (δ os a.pk.ss.length J) (δ N a.pk.ex.length ke) (δ O a.pk.pl.length I)) a w0 w' k {sj with lanes:=qw sj.lanes (j:Int) l'} ([A]++([G.heap.size]++F))/\qt ([A]++([G.heap.size]++F)) (ag.drewN 1) w'/\qg (λb=>b≠k.R/\b≠k.ML/\b∉[A]++([G.heap.size]++F)) (ag.drewN 1) w'):=κ (by
      rw[<-bz,<-bA,<-bu,<-bY,<-aM.o];have h:=(aD.o.on ap.o).on (qa.drewN ag 1)
      exact Nu h ⟨H,o2,af,a.pk⟩ os N O J ke I h.pk aP.o.1 aP.o.2 cR.o bO.o)
     rw[bz,bA,bu] at aB;clear bz bA bu bY
     (with_reducible refine aQ.o.mono ?_)
     rintro e cC ⟨rfl,cw,cA,bV⟩;have bi:=κ cw;have bU:Hid (qt ([A]++([G.heap.size]++F)) wc cC):=κ (bo.o.trans ((aD.o.at.stay (ap.o.dr 1)).trans cA));have bH:Hid (qg (λb=>b≠k.R/\b≠k.ML/\b∉[A]++([G.heap.size]++F)) ag cC):=κ (((qg.refl _ ag).drewN 1).trans bV);clear cw cA bV;refine⟨_,rfl,qi bH.o,d _ _ ?_⟩;clear d K
     iterate 7 (refine qD rfl rfl (qi bH.o) ?_;intro K d;go_big_quiet_op;go_big_quiet_on)
     refine qv ?_;clear cH bh bJ cX cY dc dd de df dg dh di dj cZ da db;cases dr with
     | false=>
      go_wp2;go_roundw
      case rel=>exact⟨j+1,τ,by go_num,by rw[bn.o,List.foldl_append,bm.o];show RmP _ a w0 _ k (sj.put1 U (j:Int)) _;rw[aB.o];exact bi.o,bU.o⟩
      case measure=>simp[intOf];omega
     | true=>
      obtain⟨_,_,bK⟩:=bi.o.at.blk;have dB:=β0 bK;clear bK;have cW:=κ (Ek bi.o (j:Int) cv 6)
      go_wp2_with (go_at_call 122;(go_call cW.o as e dX ⟨rfl,cx,cB⟩;have cN:=κ cx;have dy:=κ cB;clear cx cB))
      go_roundw
      case rel=>exact⟨j+1,τ,by go_num,by rw[bn.o,List.foldl_append,bm.o];show RmP _ a w0 _ k (sj.put1 U (j:Int)) _;rw[aB.o];exact cN.o,bU.o.trans dy.o⟩
      case measure=>simp[intOf];omega
   ·obtain rfl:j=6:=by omega
    have dH: ¬((6:Nat):Int)<6:=by omega
    go_wp2
    (refine bodyPost_end (v:= .tuple #[]) ?re1 rfl ?_;(case re1=>simp[results,results80,go_sem]))
    exact⟨rfl,by rw[bk.o,cO.o];have h:=aD.o.at;exact h.sub (λb ac=>by simp[ac]),dz.o.trans ((aG.o.sub (λb ac=>by simp[ac])).trans (bo.o.sub (λb ac=>by simp[ac])))⟩
end
theorem qX.rd {n:Nat} {s:RmS} (h:qX n s) (af:n<=10000):Iy s:=by
 have Y:=h.num.malf;have aa:=h.num.told;have ab:=h.num.strange;have ac:=h.num.acc;have ad:=h.num.pks;have ae:=h.num.clock;refine⟨⟨h.tb.keys,h.tb.lane,Nat.le_trans h.num.few τ⟩,λx U a b m J=>by rw[h.tb.str _ _ J];exact h.tb.pub x U a b,τ,τ,τ,τ,τ,⟨τ,τ⟩,λo t H=>⟨λd=> ?_,λsq N=> ?_⟩,h.tb.org,λb G=>⟨(h.num.queue b G).1,by have:=(h.num.queue b G).2;omega⟩,λo t H x O=>h.ow.few o t H _ (List.mem_map.2 ⟨x,O,rfl⟩),λa d=>⟨(h.num.pkok a d).1,(h.num.pkok a d).2.1⟩,λx id G=> ?_⟩
 ·have:=h.num.great o t H d;exact⟨τ,τ⟩
 ·have:=Gh (n:=n) N (h.num.great o t H);exact⟨τ,τ⟩
 ·obtain⟨l,I,_⟩:=h.ow.src x id G;rw[I];rfl
section
variable {T:Nat->Tg} {w0 w w':World} {k:RmK} {vp vr:Value} {s:RmS} {F:List Nat}
theorem Iq {n:Nat} (aG:qF w0 w k s F) (au:qX n s) (av:n<=10000) (w1 w2:Int) (acc:Bool):
  Calls prog 31 #[γ k.R,θ #[ι w1,ι w2],acc] w λe w'=>e= .returned (μ (s.pick (w1,w2) acc).2)/\qF w0 w' k (s.pick (w1,w2) acc).1 F/\qt F w w':=by
 obtain⟨T,vp,aL,h⟩:=aG;obtain⟨W1,J⟩:=ν (w.alloc (.cells #[ι w1,ι w2] 37));have az:Hid (qa w W1):=κ (by rw[<-J];exact qa.alloc _ _);have am:Hid (W1.heap[w.heap.size]? =some (.cells #[ι w1,ι w2] 37 (0,0))):=κ (by rw[<-J];exact qk w _);have I:=κ (h.on az.o);have af:=κ (h.at.stay az.o);have ap:=κ au;have aq:=κ (au.rd av);obtain⟨c,ar⟩:=ν (s.may (w1,w2));obtain⟨aA,aB⟩:=ν (s.closed);have ad:=κ (Mg I.o aq.o.clock w1 w2);rw[ar] at ad;have an:=κ ar;have ac:=κ aB;have ah:=β0 am.o;have ai:=β1 am.o;have ax:=κ av;clear h ar aB au av;cases c with
 | false=>
  have ao:Hid (s.pick (w1,w2) acc=(s,false)):=κ (by unfold RmS.pick;rw[if_neg (by rw[an.o];decide)]);rw[ao.o]
  go_enter func31,ntmps31
  go_upto_region 1 with fail
  (try rw[J])
  clear J
  go_wp2_with (go_at_call 27;(go_call ad.o as e aj ⟨rfl,d⟩;have G:=κ d;clear d))
  go_ret;exact⟨rfl,(I.o.on G.o).at,af.o.trans (I.o.at.stay G.o)⟩
 | true=>
  have ao:Hid (s.pick (w1,w2) acc=(s.stepW (w1,w2) acc,true)):=κ (by unfold RmS.pick;rw[if_pos an.o]);rw[ao.o]
  have ay:Hid ((w1,w2)∈s.workers/\(if s.closed then !((qh s.ret (w1,w2)).getD false) else s.mayOpen (w1,w2))=true):=κ (by
   have h:=an.o;unfold RmS.may at h;rw[Bool.and_eq_true] at h
   exact⟨of_decide_eq_true h.1,h.2⟩)
  have aJ:(w1=0∨w1=1∨w1=2∨w1=3∨w1=4)/\(2<=w1->(qh s.lanes w2).isSome=true):=by
   rcases mem_workers.1 ay.o.1 with e | e | e
   ·injection e with e3 e4
    exact⟨Or.inl e3,λh=>by omega⟩
   ·injection e with e3 e4
    exact⟨Or.inr (Or.inl e3),λh=>by omega⟩
   ·exact⟨Or.inr (Or.inr e.1),λ_=>e.2.2⟩
  obtain⟨aC,aD⟩:=aJ;have ak:=κ aD;clear aD;have ae: ∀w',qa W1 w'->w'.cell? ⟨k.R,7,none⟩=some (μ aA):=λw' m=>by rw[<-ac.o];exact qb (qc m I.o.blk) 7 rfl
  have ag:=κ ae;have N:=κ (λw' (m:qa W1 w')=>qc m am.o);clear ae;cases aA with
  | true=>
   have U:Hid (s.stepW (w1,w2) acc=s.endW (w1,w2)):=κ (by unfold RmS.stepW;rw[if_pos ac.o]);have aI:=ap.o.num.lost;have aw:=ax.o;have aE:=κ (λw' (m:qa W1 w')=>Nw (I.o.at.on m) w1 w2 acc τ ak.o τ);clear aI aw aC
   go_enter func31,ntmps31
   go_upto_region 1 with fail
   (try rw[J])
   clear J
   go_wp2_with (first | (go_at_call 27;(go_call ad.o as e aj ⟨rfl,d⟩;have G:=κ d;have ae:=ag.o _ d;have ah:=β0 (N.o _ d);have ai:=β1 (N.o _ d);clear d)) | (go_at_call 78;(go_call aE.o _ G.o as e w4 ⟨rfl,H,t4⟩;have O:=κ H;have Y:=κ t4;clear H t4)))
   go_ret;exact⟨rfl,by rw[U.o];exact O.o,af.o.trans ((I.o.at.stay G.o).trans Y.o)⟩
  | false=>
   have aF:Hid (s.mayOpen (w1,w2)=true):=κ (by
    have:=ay.o.2;rw[ac.o] at this
    exact this)
   rcases aC with rfl | rfl | rfl | rfl | rfl
   ·have U:Hid (s.stepW (0,w2) acc=s.read):=κ (by unfold RmS.stepW;rw[if_neg (by rw[ac.o];decide),if_pos rfl]);obtain⟨b,q,al⟩: ∃b q,s.queue=b::q:=by
     have h:=aF.o;unfold RmS.mayOpen at h;rw[if_pos rfl] at h;have h:=of_decide_eq_true h;cases al:s.queue with
     | nil=>rw[al] at h;simp at h
     | cons b q=>exact⟨b,q,rfl⟩
    have aa:=κ (λw' (m:qa W1 w')=>Ns (I.o.at.on m) aq.o al 0 w2 acc);clear al
    go_enter func31,ntmps31
    go_upto_region 1 with fail
    (try rw[J])
    clear J
    go_wp2_with (first | (go_at_call 27;(go_call ad.o as e aj ⟨rfl,d⟩;have G:=κ d;have ae:=ag.o _ d;have ah:=β0 (N.o _ d);have ai:=β1 (N.o _ d);clear d)) | (go_at_call 79;(go_call aa.o _ G.o as e w4 ⟨rfl,H,t4⟩;have O:=κ H;have Y:=κ t4;clear H t4)))
    go_ret;exact⟨rfl,by rw[U.o];exact O.o,af.o.trans ((I.o.at.stay G.o).trans Y.o)⟩
   ·have U:Hid (s.stepW (1,w2) acc=s.order):=κ (by unfold RmS.stepW;rw[if_neg (by rw[ac.o];decide),if_neg η,if_pos rfl]);have aa:=κ (λw' (m:qa W1 w')=>LJ (I.o.at.on m) aq.o 1 w2 acc)
    go_enter func31,ntmps31
    go_upto_region 1 with fail
    (try rw[J])
    clear J
    go_wp2_with (first | (go_at_call 27;(go_call ad.o as e aj ⟨rfl,d⟩;have G:=κ d;have ae:=ag.o _ d;have ah:=β0 (N.o _ d);have ai:=β1 (N.o _ d);clear d)) | (go_at_call 80;(go_call aa.o _ G.o as e w4 ⟨rfl,H,t4⟩;have O:=κ H;have Y:=κ t4;clear H t4)))
    go_ret;exact⟨rfl,by rw[U.o];exact O.o,af.o.trans ((I.o.at.stay G.o).trans Y.o)⟩
   ·have U:Hid (s.stepW (2,w2) acc=s.choose w2):=κ (by unfold RmS.stepW;rw[if_neg (by rw[ac.o];decide),if_neg η,if_neg η,if_pos rfl]);obtain⟨l,ab⟩:=Option.isSome_iff_exists.1 (ak.o ζ);have aa:=κ (λw' (m:qa W1 w')=>He (I.o.at.on m) 2 w2 acc ab);clear ab
    go_enter func31,ntmps31
    go_upto_region 1 with fail
    (try rw[J])
    clear J
    go_wp2_with (first | (go_at_call 27;(go_call ad.o as e aj ⟨rfl,d⟩;have G:=κ d;have ae:=ag.o _ d;have ah:=β0 (N.o _ d);have ai:=β1 (N.o _ d);clear d)) | (go_at_call 81;(go_call aa.o _ G.o as e w4 ⟨rfl,H,t4⟩;have O:=κ H;have Y:=κ t4;clear H t4)))
    go_ret;exact⟨rfl,by rw[U.o];exact O.o,af.o.trans ((I.o.at.stay G.o).trans Y.o)⟩
   ·have U:Hid (s.stepW (3,w2) acc=s.rewrite w2):=κ (by unfold RmS.stepW;rw[if_neg (by rw[ac.o];decide),if_neg η,if_neg η,if_neg η,if_pos rfl]);obtain⟨l,ab⟩:=Option.isSome_iff_exists.1 (ak.o ζ);have aa:=κ (λw' (m:qa W1 w')=>El (I.o.at.on m) 3 w2 acc ab);clear ab
    go_enter func31,ntmps31
    go_upto_region 1 with fail
    (try rw[J])
    clear J
    go_wp2_with (first | (go_at_call 27;(go_call ad.o as e aj ⟨rfl,d⟩;have G:=κ d;have ae:=ag.o _ d;have ah:=β0 (N.o _ d);have ai:=β1 (N.o _ d);clear d)) | (go_at_call 82;(go_call aa.o _ G.o as e w4 ⟨rfl,H,t4⟩;have O:=κ H;have Y:=κ t4;clear H t4)))
    go_ret;exact⟨rfl,by rw[U.o];exact O.o,af.o.trans ((I.o.at.stay G.o).trans Y.o)⟩
   ·have U:Hid (s.stepW (4,w2) acc=s.write w2 acc):=κ (by unfold RmS.stepW;rw[if_neg (by rw[ac.o];decide),if_neg η,if_neg η,if_neg η,if_neg η]);obtain⟨l,ab⟩:=Option.isSome_iff_exists.1 (ak.o ζ);have aK:=ap.o.num.wr w2 l ab;have aH:=ap.o.num.book;have aw:=ax.o;have aa:=κ (λw' (m:qa W1 w')=>LC (I.o.at.on m) 4 w2 acc ab τ τ);clear ab aK aH aw
    go_enter func31,ntmps31
    go_upto_region 1 with fail
    (try rw[J])
    clear J
    go_wp2_with (first | (go_at_call 27;(go_call ad.o as e aj ⟨rfl,d⟩;have G:=κ d;have ae:=ag.o _ d;have ah:=β0 (N.o _ d);have ai:=β1 (N.o _ d);clear d)) | (go_at_call 77;(go_call aa.o _ G.o as e w4 ⟨rfl,H,t4⟩;have O:=κ H;have Y:=κ t4;clear H t4)))
    go_ret;exact⟨rfl,by rw[U.o];exact O.o,af.o.trans ((I.o.at.stay G.o).trans Y.o)⟩
end
section
variable {T:Nat->Tg} {w0 w w':World} {k:RmK} {vp vr:Value} {s:RmS} {F:List Nat}
def lfN (s:RmS) (o:Og):Nat:=match qh s.strs o with
 | some t=>t.buf.holds.length
 | none=>0
theorem Le (h:RmX T w0 w k vp vr s F) (o:Og):lfN s o<=8:=by
 unfold lfN;cases ht:qh s.strs o with
 | none=>exact Nat.zero_le _
 | some t=>
  obtain⟨p,d,v,_,x⟩:=h.strAt ht;have G:=x.ok.fits;have H:=x.ok.room;simp only;omega
theorem WS {f:Og->Nat} (d: ∀o,f o<=8): ∀L:List Og,(L.map f).sum<=8* L.length
 | []=>by simp
 | o::L=>by
  have G:=d o;have H:=WS d L;rw[List.map_cons,List.sum_cons,List.length_cons];omega
theorem LD (h:RmX T w0 w k vp vr s F):Calls prog 23 #[γ k.R] w λe w'=>e= .returned (.tuple #[ι s.queue.length,ι s.held])/\qa w w':=by
 have H:=κ h;obtain⟨d,J⟩:=ν (s.origins);have aF:=κ J;have ah:=κ h.orgsRow;rw[J] at ah;have aC:Hid (s.held=(d.map (lfN s)).sum):=κ (by rw[<-J];rfl);have aB:=κ (Le h);have aE:Hid (d.length<=9):=κ (by rw[<-J];exact Jf s);rw[aC.o];clear h J
 go_enter func23,ntmps23
 go_wp2_with (go_at_call 64;(go_call ah.o as e w1 ⟨v,rfl,au,aq⟩;obtain⟨aV,cap,rfl,aO,ao⟩:=Ua au;have aG:=κ ao;have O:=κ aq;clear au aq ao))
 have aU:=aE.o;clear aO
 go_loopw [4,10] (λu af wr=> ∃j:Nat,j<=d.length/\af= ι j/\u= ι ((((d.take j).map (lfN s)).sum:Nat):Int)/\qa w1 wr) (λ_ af _=>d.length-(intOf af).toNat)
 case atStart=>exact⟨0,τ,rfl,rfl,qa.refl _⟩
 case round=>
  obtain⟨j,aS,rfl,rfl,am⟩:=hrel;have G:=κ am;clear am;by_cases hlt:j<d.length
  ·have aN:(j:Int)<(d.length:Int):=by omega
   obtain⟨b,rfl,aR,aj,Y,c1⟩:=aG.o j hlt;have Y:wr.cell? ⟨b,j* 2,none⟩=some (ι (d[j]).1):=by rw[G.o.cells _ _ aj];exact Y
   have c1:wr.cell? ⟨b,j* 2+1,none⟩=some (ι (d[j]).2):=by rw[G.o.cells _ _ aj];exact c1
   obtain⟨t,ae⟩: ∃t,qh s.strs d[j]=some t:=yB (by rw[aF.o];exact List.getElem_mem hlt)
   have ab:Hid (((d.take (j+1)).map (lfN s)).sum=((d.take j).map (lfN s)).sum+t.buf.holds.length):=κ (by
    rw[List.take_succ_eq_append_getElem hlt,List.map_append,List.sum_append,List.map_cons,List.map_nil,List.sum_cons,List.sum_nil];unfold lfN;rw[ae]
    rfl)
   have ap:=WS aB.o (d.take j);rw[List.length_take] at ap;have aP:((d.take j).map (lfN s)).sum<=72:=by omega
   obtain⟨p,aJ,v,an,N⟩:=H.o.strAt ae;have aL:=N.ok.fits;have aM:=N.ok.room;have aK:t.buf.holds.length<=8:=by omega
   clear aL aM ap ae;generalize d[j]=o at *;obtain⟨aa,o2⟩:=o;simp only at Y c1;obtain⟨W1,I⟩:=ν (wr.alloc (.cells #[ι aa,ι o2] 58));have U:Hid (qa w W1):=κ (by rw[<-I];exact(O.o.trans G.o).al _);have aI:Hid (qa w1 W1):=κ (by rw[<-I];exact G.o.al _);have av:Hid (W1.heap[wr.heap.size]? =some (.cells #[ι aa,ι o2] 58 (0,0))):=κ (by rw[<-I];exact qk wr _);have ac:=λ(x:qp W1)=>qc x.h av.o
   have az:=λx=>β0 (ac x);have aA:=λx=>β1 (ac x);clear ac
   have aw:=λ(x:qp W1)=>β13 (qc (U.o.trans x.h) H.o.blk)
   have ay:=λ(x:qp W1)=>β0 (qc (U.o.trans x.h) N.blk)
   have ax: ∀x:qp W1,(Instr.lookup 91 (.map (some k.MS)) (θ #[ι aa,ι o2]) false).run prog x.w'= .ok (γ p) x.w':=λx=>by
    have:=yf (H.o.stm.more (U.o.trans x.h)) (aa,o2) false;rw[an] at this;exact this
   have ag:=κ (Hp t.buf aJ v (W1.drewN 1) (N.buf.on (U.o.dr 1)));obtain⟨aT,ak⟩:=ν (t.buf.holds.length);obtain⟨aW,ad⟩:=ν (((d.take j).map (lfN s)).sum);rw[ak] at ag ab aK;rw[ad] at ab aP
   (try rw[ad])
   clear ak an N ad
   go_upto_region 5 with fail
   (try rw[I])
   clear I Y c1;refine Qn W1 13 13 [10] ?_
   refine Ml ?_
   (refine Ql ?_;intro K ai)
   (with_reducible refine ag.o.mono ?_)
   rintro e w5 ⟨rfl,rfl⟩;refine⟨_,rfl,qj ((qa.refl _).dr 1),ai _ _ ?_⟩;clear ai K
   refine Qq2 ?_
   refine qv ?_;clear az aA aw ay ax;go_wp2;go_roundw
   case rel=>exact⟨j+1,τ,by go_num,by rw[ab.o];go_num,aI.o.dr 1⟩
   case measure=>simp[intOf];omega
  ·obtain rfl:j=d.length:=by omega
   have aN: ¬(d.length:Int)<(d.length:Int):=by omega
   have aD:=κ (Ip (H.o.on (O.o.trans G.o)));have aQ:=β10 (qc (O.o.trans G.o) H.o.blk)
   go_wp2_with (go_at_call 66;(go_call aD.o as e w5 ⟨rfl,ar⟩;have aH:=κ ar;clear ar))
   go_ret2
   exact⟨rfl,O.o.trans (G.o.trans aH.o)⟩
end
def ln0:LnS:=Yp 0 0 0 0 0
def RmS.ln (s:RmS) (x:Int):LnS:=(qh s.lanes x).getD ln0
section
variable {T:Nat->Tg} {w0 w w':World} {k:RmK} {vp vr:Value} {s:RmS} {F:List Nat}
theorem Nv (h:RmX T w0 w k vp vr s F) (x:Int):Calls prog 24 #[γ k.R,ι x] w λe w'=>
  e= .returned (.tuple #[θ #[ι (s.ln x).cur,ι (s.ln x).tgt],θ #[ι (s.ln x).A.length,ι (s.ln x).B.length,ι (s.ln x).C.length],μ (s.ln x).gone,μ (qh s.lanes x).isSome])/\qa w w':=by
 obtain⟨W2,O⟩:=ν ((w.alloc (.cells #[ι 0,ι 0] 103)).alloc (.cells #[ι 0,ι 0,ι 0] 104));have ak:Hid (qa w W2):=κ (by rw[<-O];exact(qa.alloc _ _).al _);have aa:Hid (W2.heap[w.heap.size]? =some (.cells #[ι 0,ι 0] 103 (0,0))):=κ (by rw[<-O];exact qq (qk w _) _);have N:Hid (W2.heap[w.heap.size+1]? =some (.cells #[ι 0,ι 0,ι 0] 104 (0,0))):=κ (by rw[<-O];exact qB η);have aj:=κ (h.on ak.o);have bb:=β12 aj.o.blk;have q:_:=xo aj.o.lnm x true;simp only[if_true] at q;cases hl:qh s.lanes x with
 | none=>
  have ai:Hid (s.ln x=ln0):=κ (by unfold RmS.ln;rw[hl];rfl);rw[h.laneNo hl] at q;rw[ai.o]
  replace q:(Instr.lookup 90 (.map (some k.ML)) (ι x) true).run prog W2= .ok (.tuple #[π none,false]) W2:=q
  have z0:=β0 aa.o;have ba:=β1 aa.o;have bf:=qd aa.o 0;have bg:=qd aa.o 1;have aB:=β0 N.o;have aC:=β1 N.o;have aD:=β2 N.o;have t0:=qd N.o 0;have t1:=qd N.o 1;have t2:=qd N.o 2;clear h hl
  go_enter func24,ntmps24
  go_upto_region 1 with fail
  (try rw[O])
  clear O;go_wp2
  (refine bodyPost_ret (v:= .tuple #[θ #[ι 0,ι 0],θ #[ι 0,ι 0,ι 0],false,false]) ?rr1 rfl ?_;(case rr1=>(simp[results,results24,go_sem,z0,ba,aB,aC,aD])))
  exact⟨rfl,((((ak.o.st (Nat.le_refl _) _).st (Nat.le_refl _) _).st (Nat.le_add_right _ _) _).st (Nat.le_add_right _ _) _).st (Nat.le_add_right _ _) _⟩
 | some l=>
  obtain⟨p,aP,ad⟩:=aj.o.laneAt hl;have ai:Hid (s.ln x=l):=κ (by unfold RmS.ln;rw[hl];rfl);rw[ai.o];rw[aP] at q
  replace q:(Instr.lookup 90 (.map (some k.ML)) (ι x) true).run prog W2= .ok (.tuple #[γ p,true]) W2:=q
  have aK:=κ (Xj ad);have aI:=κ (λw' (m:qa W2 w')=>FA (ad.on m));have aH:=κ (λw' (m:qa W2 w')=>JK (ad.on m));obtain⟨d,av⟩:=ν (l.cur);obtain⟨G,ay⟩:=ν (l.tgt);obtain⟨be,aO⟩:=ν (l.wanted);obtain⟨aZ,ax⟩:=ν (l.gone);obtain⟨la,ar⟩:=ν (l.A.length);obtain⟨lb,au⟩:=ν (l.B.length);obtain⟨J,aw⟩:=ν (l.C.length);rw[av,ay,aO] at aK;rw[ax] at aH;rw[ar,au,aw] at aI;rw[av,ay,ax,ar,au,aw];clear av ay aO ax ar au aw aP ad hl h
  go_enter func24,ntmps24
  go_upto_region 1 with fail
  (try rw[O])
  clear O
  go_upto_region 5 with (go_at_call 67;(go_call aK.o as e U ⟨rfl,aR⟩;have aL:=κ aR;clear aR))
  obtain⟨I,ac⟩:=ν (U.alloc (.cells #[ι d,ι G] 103));have an:Hid (qa W2 I):=κ (by rw[<-ac];exact aL.o.al _);have aE:Hid (I.heap[U.heap.size]? =some (.cells #[ι d,ι G] 103 (0,0))):=κ (by rw[<-ac];exact qk U _);have aQ:w.heap.size+2<=U.heap.size:=by
   have bc:=aL.o.size;have bd:=ql N.o;omega
  have aJ:=κ aQ;clear aQ
  (try rw[ac])
  clear ac;have aV: ∀y:qu (λb=>b=w.heap.size∨b=w.heap.size+1) I,y.w'.cell? ⟨U.heap.size,0,none⟩=some (ι d):=λy=>qb (y.h.blk aE.o (λe=>by have:=aJ.o;omega)) 0 rfl
  have aW: ∀y:qu (λb=>b=w.heap.size∨b=w.heap.size+1) I,y.w'.cell? ⟨U.heap.size,1,none⟩=some (ι G):=λy=>qb (y.h.blk aE.o (λe=>by have:=aJ.o;omega)) 1 rfl
  refine zo (λb=>b=w.heap.size∨b=w.heap.size+1) I 9 [(0,false),(1,false),(3,false),(2,true),(4,true),(5,true),(6,true),(7,false),(8,false)] ξ ξ ?_
  refine Qs3 ?_
  (refine Ql ?_;intro K H)
  go_call aI.o _ (an.o.dr 1) as e w5 ⟨rfl,aS⟩;have ao:Hid (qa I w5):=κ ((qa.drewN I 1).trans aS);clear aS;refine⟨_,rfl,qi (qg.of_more ao.o),H _ _ ?_⟩;clear H K
  (refine Ql ?_;intro K H)
  go_call aH.o _ (an.o.trans ao.o) as e w6 ⟨rfl,aT⟩;have ap:Hid (qa I w6):=κ (ao.o.trans aT);clear aT;refine⟨_,rfl,qi (qg.of_more ap.o),H _ _ ?_⟩;clear H K aV aW;have am:=κ (an.o.trans ap.o);have aF:=κ (qc am.o aa.o);have aU:=κ (qc am.o N.o);refine jJ rfl rfl ?_;intro K H;refine jZ 103 (.tmp 4) (.tmp 30) rfl w.heap.size 103 _ #[ι d,ι G] aF.o rfl rfl ξ rfl (by simp[Value.oneCell']) ?_;have ae:Hid (qg (λb=>b=w.heap.size∨b=w.heap.size+1) I (w6.setRow w.heap.size #[ι d,ι G])):=κ ((qg.of_more ap.o).trans ((qg.setRow w6 w.heap.size #[ι d,ι G]).mono (λb aq=>Or.inl aq)));have aG:=κ (jK aF.o #[ι d,ι G]);have ah:Hid ((w6.setRow w.heap.size #[ι d,ι G]).heap[w.heap.size+1]? =some (.cells #[ι 0,ι 0,ι 0] 104 (0,0))):=κ ((qg.setRow w6 w.heap.size #[ι d,ι G]).blk aU.o τ);have aM:Hid (qa w (w6.setRow w.heap.size #[ι d,ι G])):=κ ((ak.o.trans am.o).row (Nat.le_refl _) _);refine⟨qi ae.o,H _ _ ?_⟩;clear H K;obtain⟨Y,az⟩:=ν (w6.setRow w.heap.size #[ι d,ι G]);rw[az] at ae aG ah aM
  (try rw[az])
  clear az;refine jJ rfl rfl ?_;intro K H;refine jZ 104 (.tmp 5) (.tmp 32) rfl (w.heap.size+1) 104 _ #[ι la,ι lb,ι J] ah.o rfl rfl ξ rfl (by simp[Value.oneCell']) ?_;have af:Hid (qg (λb=>b=w.heap.size∨b=w.heap.size+1) I (Y.setRow (w.heap.size+1) #[ι la,ι lb,ι J])):=κ (ae.o.trans ((qg.setRow Y (w.heap.size+1) #[ι la,ι lb,ι J]).mono (λb aq=>Or.inr aq)));have ab:=κ (jK ah.o #[ι la,ι lb,ι J]);have ag:Hid ((Y.setRow (w.heap.size+1) #[ι la,ι lb,ι J]).heap[w.heap.size]? =some (.cells #[ι d,ι G] 103 (0,0))):=κ ((qg.setRow Y (w.heap.size+1) #[ι la,ι lb,ι J]).blk aG.o τ);have aN:Hid (qa w (Y.setRow (w.heap.size+1) #[ι la,ι lb,ι J])):=κ (aM.o.row (Nat.le_succ _) _);refine⟨qi af.o,H _ _ ?_⟩;clear H K;obtain⟨w8,aA⟩:=ν (Y.setRow (w.heap.size+1) #[ι la,ι lb,ι J]);rw[aA] at af ag ab aN
  (try rw[aA])
  clear aA;go_simp
  iterate 2 (refine qD rfl rfl (qi af.o) ?_;intro K H;go_big_quiet_op;go_big_quiet_on)
  refine qv ?_;have aX:=β0 ag.o;have aY:=β1 ag.o;have aB:=β0 ab.o;have aC:=β1 ab.o;have aD:=β2 ab.o;go_wp2
  (refine bodyPost_ret (v:= .tuple #[θ #[ι d,ι G],θ #[ι la,ι lb,ι J],aZ,true]) ?rr2 rfl ?_;(case rr2=>(simp[results,results24,go_sem,aX,aY,aB,aC,aD])))
  exact⟨rfl,aN.o⟩
theorem Eh (h:RmX T w0 w k vp vr s F) (x:Int) (d:(s.ln x).W.length<=1000000):Calls prog 14 #[γ k.R,ι x] w λe w'=>(∃v,e= .returned v/\qV 2 (ROn w.heap.size) (λb=>b<w.heap.size) w' w.heap.size 56 v (s.ln x).W)/\qa w w':=by
 have aa:=β12 h.blk;have q:_:=xo h.lnm x true;simp only[if_true] at q;cases hl:qh s.lanes x with
 | none=>
  have G:Hid (s.ln x=ln0):=κ (by unfold RmS.ln;rw[hl];rfl)
  replace q:(Instr.lookup 90 (.map (some k.ML)) (ι x) true).run prog w= .ok (.tuple #[π none,false]) w:=by rw[h.laneNo hl] at q;exact q
  rw[G.o];clear h hl d
  go_enter func14,ntmps14
  go_wp2;go_ret;exact⟨⟨_,rfl,qV.nil _ _ _ _ _ _⟩,qa.refl _⟩
 | some l=>
  obtain⟨p,I,H⟩:=h.laneAt hl;have G:Hid (s.ln x=l):=κ (by unfold RmS.ln;rw[hl];rfl);rw[G.o] at d ⊢
  replace q:(Instr.lookup 90 (.map (some k.ML)) (ι x) true).run prog w= .ok (.tuple #[γ p,true]) w:=by rw[I] at q;exact q
  have O:=κ (Uo H d);clear h hl I H d
  go_enter func14,ntmps14
  go_wp2_with (go_at_call 48;(go_call O.o as e w2 ⟨⟨v,rfl,N⟩,J⟩;have Y:=κ N;have U:=κ J;clear N J))
  go_ret;exact⟨⟨_,rfl,Y.o⟩,U.o⟩
end
theorem Yc {l:LnS} (h:zp l 1=false):(qN l).1=l:=by
 rcases zP (s:=l) with ⟨_,e⟩ | ⟨d,_⟩
 ·rw[e]
 ·rw[h] at d;cases d
theorem XB {l:LnS} (h:l.B=[]):(qL l).1=l:=by
 rcases zU (s:=l) with ⟨_,e⟩ | ⟨_,_,_,d,_⟩
 ·rw[e]
 ·rw[h] at d;cases d
theorem AW {l:LnS} (h:l.C=[]):(qH l true).1=l:=by
 rcases yr (s:=l) true with ⟨_,e⟩ | ⟨_,_,d,_⟩
 ·rw[e]
 ·rw[h] at d;cases d
theorem L8 {l:LnS} (h:zp l 1=true): ∃x A,l.A=x::A:=by
 rcases zP (s:=l) with ⟨d,_⟩ | ⟨_,x,A,G,_⟩
 ·rw[h] at d;cases d
 ·exact⟨x,A,G⟩
theorem N9 (l:LnS):zp l 2=decide (0<l.B.length):=rfl
theorem NZ (l:LnS):zp l 3=decide (0<l.C.length):=rfl
theorem Aq {α:Type} {L:List α} (h: ¬0<L.length):L=[]:=List.length_eq_zero_iff.1 τ
structure OnL (Wk:List Og) (s:RmS):Prop where
 closed:s.closed=false
 workers:s.workers=Wk
 queue:s.queue=[]
 held: ∀o t,qh s.strs o=some t->t.buf.holds=[]
theorem OnL.ready {G:List Og} {s:RmS} (h:OnL G s):s.ready=none:=by
 unfold RmS.ready;rw[List.find?_eq_none];intro o _ d;unfold RmS.readyAt at d;cases ht:qh s.strs o with
 | none=>rw[ht] at d;cases d
 | some t=>
  rw[ht] at d;simp only at d;unfold jN at d;rw[h.held o t ht] at d;cases d
theorem Xq {s s':RmS} {y:Int} {l:LnS} (h:s'.lanes=qw s.lanes y l) (x:Int):s'.ln x=if x=y then l else s.ln x:=by
 unfold RmS.ln;rw[h,qy];split<;>rfl
theorem OnL.pick {O:List Og} {s:RmS} (h:OnL O s) (w:Og):OnL O (s.pick w true).1/\ ∀x,x∈subIds->(s.pick w true).1.ln x=if w=(2,x) then (qN (s.ln x)).1 else if w=(3,x) then (qL (s.ln x)).1 else if w=(4,x) then (qH (s.ln x) true).1 else s.ln x:=by
 obtain⟨w1,w2⟩:=w;have d:=(ye h.closed (w1,w2) true).1;unfold RmS.pick at d ⊢;split
 ·rename_i I;rw[if_pos I] at d;have U:=I;unfold RmS.may at U;rw[Bool.and_eq_true] at U;have ad:=mem_workers.1 (of_decide_eq_true U.1);have inl: ∀s',OpP s s'->s'.queue=s.queue->s'.strs=s.strs->OnL O s':=λs' k H J=>⟨k.closed.trans h.closed,k.workers.trans h.workers,H.trans h.queue,λo t ab=>by rw[J] at ab;exact h.held o t ab⟩
  unfold RmS.stepW at d ⊢;rw[if_neg (by rw[h.closed];decide)] at d ⊢;rcases ad with e | e | ⟨H,J,e3⟩
  ·injection e with H J
   subst H;subst J;simp only[if_true] at d ⊢;have:s.read=s:=by unfold RmS.read;rw[h.queue]
   rw[this];exact⟨h,λx _=>by simp⟩
  ·injection e with H J
   subst H;subst J;have:s.order=s:=by unfold RmS.order;rw[h.ready]
   simp only[this,if_true,if_neg (by decide: ¬(1:Int)=0)] at d ⊢;exact⟨h,λx _=>by simp⟩
  ·simp only at H J e3;cases hl:qh s.lanes w2 with
   | none=>rw[hl] at e3;cases e3
   | some l=>
    have N:s.ln w2=l:=by unfold RmS.ln;rw[hl];rfl
    rcases H with rfl | rfl | rfl
    ·simp only[if_true,if_neg (by decide: ¬(2:Int)=0),if_neg (by decide: ¬(2:Int)=1)] at d ⊢;refine⟨inl _ d (zO s w2).queue (by unfold RmS.choose;rw[hl]),λx _=> ?_⟩;rw[Xq (y:=w2) (l:=(qN l).1) (by unfold RmS.choose;rw[hl])];by_cases c:x=w2
     ·subst c;rw[if_pos rfl,if_pos rfl,N]
     ·rw[if_neg c,if_neg (λG=>c (by injection G with _ G;exact G.symm)),if_neg η,if_neg η]
    ·simp only[if_true,if_neg (by decide: ¬(3:Int)=0),if_neg (by decide: ¬(3:Int)=1),if_neg (by decide: ¬(3:Int)=2)] at d ⊢;refine⟨inl _ d (zm s w2).queue (by unfold RmS.rewrite;rw[hl]),λx _=> ?_⟩;rw[Xq (y:=w2) (l:=(qL l).1) (by unfold RmS.rewrite;rw[hl])];by_cases c:x=w2
     ·subst c;rw[if_pos rfl,if_neg η,if_pos rfl,N]
     ·rw[if_neg c,if_neg η,if_neg (λG=>c (by injection G with _ G;exact G.symm)),if_neg η]
    ·simp only[if_neg (by decide: ¬(4:Int)=0),if_neg (by decide: ¬(4:Int)=1),if_neg (by decide: ¬(4:Int)=2),if_neg (by decide: ¬(4:Int)=3)] at d ⊢;refine⟨inl _ d (ku s w2 true).2 (by unfold RmS.write;rw[hl]),λx _=> ?_⟩;rw[Xq (y:=w2) (l:=(qH l true).1) (by unfold RmS.write;rw[hl])];by_cases c:x=w2
     ·subst c;rw[if_pos rfl,if_neg η,if_neg η,if_pos rfl,N]
     ·rw[if_neg c,if_neg η,if_neg η,if_neg (λG=>c (by injection G with _ G;exact G.symm))]
 ·rename_i I;refine⟨h,λx N=> ?_⟩;simp only;unfold RmS.may at I;rw[if_neg (by rw[h.closed];decide)] at I;have Y: ∀n:Int,(n=2∨n=3∨n=4)->(w1,w2)=(n,x)->zp (s.ln x) (j7 n)=false:=λn aa e=>by
   injection e with H J
   subst H;subst J;cases hl:qh s.lanes w2 with
   | none=>
    have:s.ln w2=ln0:=by unfold RmS.ln;rw[hl];rfl
    rw[this];rcases aa with rfl | rfl | rfl<;>rfl
   | some l=>
    have e:s.ln w2=l:=by unfold RmS.ln;rw[hl];rfl
    have ac:((w1,w2):Og)∈s.workers:=mem_workers.2 (Or.inr (Or.inr ⟨aa,N,by simp only;rw[hl];rfl⟩));rw[decide_eq_true ac,Bool.true_and] at I;unfold RmS.mayOpen at I;simp only at I;rw[if_neg τ,if_neg τ,hl] at I;rw[e]
    simpa using I
  split
  ·rename_i e;exact(Yc (Y 2 (Or.inl rfl) e)).symm
  ·split
   ·rename_i e;have:=Y 3 (Or.inr (Or.inl rfl)) e;rw[show j7 3=2 from rfl,N9] at this;exact(XB (Aq (of_decide_eq_false this))).symm
   ·split
    ·rename_i e;have:=Y 4 (Or.inr (Or.inr rfl)) e;rw[show j7 4=3 from rfl,NZ] at this;exact(AW (Aq (of_decide_eq_false this))).symm
    ·rfl
section
variable {Wk:List Og} {s:RmS} {R:Nat} {x:Int}
theorem OnL.lnk (h:OnL Wk s) (G:x∈subIds) (d:LnK R (s.ln x)) (v:Og):LnK R ((s.pick v true).1.ln x):=by
 rw[(h.pick v).2 x G];split
 ·exact d.choose
 ·split
  ·exact d.rewrite
  ·split
   ·exact d.write true
   ·exact d
theorem XM (l:LnS):((qN l).1=l)∨2* (qN l).1.A.length+(qN l).1.B.length<2* l.A.length+l.B.length:=by
 rcases zP (s:=l) with ⟨_,e⟩ | ⟨_,y,A,d,_,e⟩
 ·exact Or.inl (by rw[e])
 ·refine Or.inr ?_;rw[e,d];simp only[List.length_cons];split
  ·rw[List.length_append,List.length_singleton];omega
  ·omega
theorem Jc (l:LnS):((qL l).1=l)∨2* (qL l).1.A.length+(qL l).1.B.length<2* l.A.length+l.B.length:=by
 rcases zU (s:=l) with ⟨_,e⟩ | ⟨y,f,B,d,e⟩
 ·exact Or.inl (by rw[e])
 ·refine Or.inr ?_;rw[e,d];simp only[List.length_cons];omega
theorem yQ (l:LnS):(qH l true).1.A=l.A/\(qH l true).1.B=l.B/\(qH l true).1.room=l.room/\(qH l true).1.C=l.C.tail:=by
 rcases yr (s:=l) true with ⟨d,e⟩ | ⟨o,C,d,⟨_,e⟩ | ⟨h,_⟩⟩
 ·rw[e,d];exact⟨rfl,rfl,rfl,rfl⟩
 ·rw[e,d];exact⟨rfl,rfl,rfl,rfl⟩
 ·cases h
def onP (x:Int) (t:RmS) (v:Og):Prop:=v=(2,x)/\zp (t.ln x) 1=true∨v=(3,x)/\(t.ln x).B≠[]
def JT (l:LnS):Nat:=2* l.A.length+l.B.length
theorem GS (h:OnL Wk s) (I:x∈subIds) (af:LnK R (s.ln x)) (G:List (List Og)) (aa: ∀L∈G,((2,x):Og)∈L/\((3,x):Og)∈L):
  OnL Wk (s.picks true G.flatten)/\LnK R ((s.picks true G.flatten).ln x)/\JT ((s.picks true G.flatten).ln x)<=JT (s.ln x)-G.length:=by
 have Y: ∀(t:RmS),OnL Wk t-> ∀v:Og,(t.pick v true).1.ln x=t.ln x∨JT ((t.pick v true).1.ln x)<JT (t.ln x)∨(t.pick v true).1.ln x=(qH (t.ln x) true).1:=λt ag v=>by
  rw[(ag.pick v).2 x I];split
  ·rcases XM (t.ln x) with e | e
   ·exact Or.inl e
   ·exact Or.inr (Or.inl e)
  ·split
   ·rcases Jc (t.ln x) with e | e
    ·exact Or.inl e
    ·exact Or.inr (Or.inl e)
   ·split
    ·exact Or.inr (Or.inr rfl)
    ·exact Or.inl rfl
 obtain⟨⟨a,b⟩,c⟩:=uv (step:=λs w=>(RmS.pick s w true).1) (Inv:=λt=>OnL Wk t/\LnK R (t.ln x)) (f:=λt=>JT (t.ln x)) (P:=onP x)
  (λt v h=>⟨(h.1.pick v).1,h.1.lnk I h.2 v⟩)
  (λt v h=>by
   obtain⟨U,J,_⟩:=yQ (t.ln x);rcases Y t h.1 v with e | e | e
   ·rw[e];exact Nat.le_refl _
   ·exact Nat.le_of_lt e
   ·rw[e];unfold JT;rw[U,J];exact Nat.le_refl _)
  (λt v u h d=>by
   obtain⟨U,J,ah,_⟩:=yQ (t.ln x);rcases Y t h.1 v with e | e | e
   ·exact Or.inr (by unfold onP at d ⊢;rw[e];exact d)
   ·exact Or.inl e
   ·refine Or.inr ?_;unfold onP at d ⊢;rw[e];have:zp (qH (t.ln x) true).1 1=zp (t.ln x) 1:=by unfold zp;rw[U,J,ah];rfl
    rw[this,J]
    exact d)
  (λt v h d=>by
   rcases d with ⟨rfl,d⟩ | ⟨rfl,d⟩
   ·rw[(h.1.pick _).2 x I,if_pos rfl];rcases XM (t.ln x) with e | e
    ·obtain⟨y,A,am⟩:=L8 d;rcases zP (s:=t.ln x) with ⟨H,_⟩ | ⟨_,ai,A',ad,_,N⟩
     ·rw[d] at H;cases H
     ·have:=congrArg (λl:LnS=>l.A.length) e;rw[N] at this;simp only at this;rw[ad,List.length_cons] at this;omega
    ·exact e
   ·rw[(h.1.pick _).2 x I,if_neg η,if_pos rfl];rcases Jc (t.ln x) with e | e
    ·rcases zU (s:=t.ln x) with ⟨H,_⟩ | ⟨ai,ak,aj,ae,N⟩
     ·exact(d H).elim
     ·have:=congrArg (λl:LnS=>l.B.length) e;rw[N] at this;simp only at this;rw[ae,List.length_cons] at this;omega
    ·exact e)
  [(2,x),(3,x)] (λt h O=>by
   by_cases hb:(t.ln x).B=[]
   ·refine⟨(2,x),η,Or.inl ⟨rfl, ?_⟩⟩;unfold JT at O;rw[hb] at O;have H:=h.2.room;have al:=h.2.one;show (decide (0<(t.ln x).A.length)&&decide (¬(t.ln x).B.length=(t.ln x).room))=true;rw[Bool.and_eq_true,decide_eq_true_eq,decide_eq_true_eq,hb];simp only[List.length_nil] at O ⊢;omega
   ·exact⟨(3,x),η,Or.inr ⟨rfl,hb⟩⟩) G s ⟨h,af⟩ (λL ab u ac=>by
   simp only[List.mem_cons,List.not_mem_nil,or_false] at ac;rcases ac with rfl | rfl
   ·exact(aa L ab).1
   ·exact(aa L ab).2)
 exact⟨a,b,c⟩
theorem GR (h:OnL Wk s) (ae:x∈subIds) (Y:(s.ln x).A=[]) (aa:(s.ln x).B=[]) (d:List (List Og)) (ab: ∀L∈d,((4,x):Og)∈L):
  OnL Wk (s.picks true d.flatten)/\((s.picks true d.flatten).ln x).A=[]/\((s.picks true d.flatten).ln x).B=[]/\((s.picks true d.flatten).ln x).C.length<=(s.ln x).C.length-d.length:=by
 have ag: ∀l:LnS,l.A=[]->zp l 1=false:=λl e=>by
  cases h:zp l 1 with
  | false=>rfl
  | true=>obtain⟨_,_,q⟩:=L8 h;rw[e] at q;cases q
 have H: ∀(t:RmS),OnL Wk t->(t.ln x).A=[]->(t.ln x).B=[]-> ∀v:Og,(t.pick v true).1.ln x=if v=(4,x) then (qH (t.ln x) true).1 else t.ln x:=λt ad O U v=>by
  rw[(ad.pick v).2 x ae];split
  ·rename_i e;rw[e,if_neg η];exact Yc (ag _ O)
  ·split
   ·rename_i e;rw[e,if_neg η];exact XB U
   ·rfl
 obtain⟨⟨a,b,c⟩,N⟩:=uv (step:=λs w=>(RmS.pick s w true).1) (Inv:=λt=>OnL Wk t/\(t.ln x).A=[]/\(t.ln x).B=[]) (f:=λt=>(t.ln x).C.length) (P:=λt v=>v=(4,x)/\0<(t.ln x).C.length)
  (λt v h=>by
   refine⟨(h.1.pick v).1, ?_⟩;rw[H t h.1 h.2.1 h.2.2 v];obtain⟨ah,ai,_⟩:=yQ (t.ln x);split
   ·exact⟨ah.trans h.2.1,ai.trans h.2.2⟩
   ·exact h.2)
  (λt v h=>by
   rw[H t h.1 h.2.1 h.2.2 v];obtain⟨_,_,_,G⟩:=yQ (t.ln x);split
   ·rw[G,List.length_tail];omega
   ·exact Nat.le_refl _)
  (λt v u h I=>by
   rw[H t h.1 h.2.1 h.2.2 v];obtain⟨_,_,_,G⟩:=yQ (t.ln x);split
   ·refine Or.inl ?_;rw[G,List.length_tail];omega
   ·exact Or.inr I)
  (λt v h I=>by
   rw[H t h.1 h.2.1 h.2.2 v,if_pos I.1];obtain⟨_,_,_,G⟩:=yQ (t.ln x)
   rw[G,List.length_tail];omega)
  [(4,x)] (λt h af=>⟨(4,x),List.mem_singleton.2 rfl,rfl,af⟩) d s ⟨h,Y,aa⟩ (λL ac u J=>by rw[List.mem_singleton] at J;rw[J];exact ab L ac)
 exact⟨a,b,c,N⟩
end
def jg (s:RmS) (o:Og):Nat:=match qh s.strs o with
 | some t=>t.buf.holds.length
 | none=>0
def zX (s:RmS):Nat:=(orgs.map (jg s)).sum
theorem WR {α:Type} {f g:α->Nat} {a:α} (I:g a+1=f a) (G: ∀b,b≠a->g b=f b): ∀(L:List α),L.Nodup->(L.map g).sum<=(L.map f).sum/\(a∈L->(L.map g).sum+1=(L.map f).sum)/\(a∉L->(L.map g).sum=(L.map f).sum)
 | [],_=>⟨Nat.le_refl _,λh=>(by cases h),λ_=>rfl⟩
 | b::L,hn=>by
  rw[List.nodup_cons] at hn;obtain⟨J,H,d⟩:=WR I G L hn.2;simp only[List.map_cons,List.sum_cons,List.mem_cons,not_or];by_cases e:b=a
  ·subst e;have:=d hn.1;exact⟨τ,λ_=>by omega,λh=>(h.1 rfl).elim⟩
  ·have:=G b e;refine⟨τ,λh=> ?_,λh=> ?_⟩
   ·have:=H (h.resolve_left λq=>e q.symm);omega
   ·have:=d h.2;omega
structure OnH (Wk:List Og) (s:RmS):Prop where
 closed:s.closed=false
 workers:s.workers=Wk
 queue:s.queue=[]
 org: ∀o t,qh s.strs o=some t->o∈orgs
 wait: ∀o t,qh s.strs o=some t-> ∀h∈t.buf.holds,xI t.buf s.clock h=true
theorem QM (d:ItS): ∀(L:List Int) (s:RmS),(L.foldl (RmS.put1 d) s).strs=s.strs
 | [],s=>rfl
 | x::L,s=>(QM d L (s.put1 d x)).trans (ZL d x).1
theorem OnH.order {Y:List Og} {s:RmS} (h:OnH Y s):OnH Y s.order/\(0<zX s->zX s.order<zX s)/\zX s.order<=zX s:=by
 have N:=OpP.loc (yT s);have ae:=(yT s).queue;cases hy:s.ready with
 | none=>
  have e:s.order=s:=by unfold RmS.order;rw[hy]
  rw[e];refine⟨h,λah=> ?_,Nat.le_refl _⟩;exfalso;have: ∀o∈orgs,jg s o=0:=λo J=>by
   unfold jg;cases ht:qh s.strs o with
   | none=>rfl
   | some t=>
    simp only;cases hb:t.buf.holds with
    | nil=>rfl
    | cons y T=>
     exfalso;unfold RmS.ready at hy;rw[List.find?_eq_none] at hy;refine hy o ?_ ?_
     ·unfold RmS.origins;rw[List.mem_filter];exact⟨J,by rw[ht];rfl⟩
     ·unfold RmS.readyAt;rw[ht];have af:=h.wait o t ht y (by rw[hb];exact List.mem_cons_self);simp only;unfold jN;rw[hb];simp[af]
  have z:zX s=0:=by
   unfold zX;rw[List.sum_eq_zero_iff_forall_eq_nat];intro n ad;obtain⟨o,J,rfl⟩:=List.mem_map.1 ad;exact this o J
  omega
 | some o=>
  have d:=List.find?_some hy;unfold RmS.readyAt at d;cases ht:qh s.strs o with
  | none=>rw[ht] at d;cases d
  | some t=>
   rw[ht] at d;simp only at d;have G:s.order.strs=qw s.strs o {t with buf:=(zV t.buf s.clock).1}:=by
    unfold RmS.order;rw[hy];simp only;rw[ht];simp only;unfold RmS.orderAt;rw[QM]
   cases hb:t.buf.holds with
   | nil=>unfold jN at d;rw[hb] at d;cases d
   | cons y T=>
    have I:(zV t.buf s.clock).1=jW t.buf:=by unfold zV;rw[hb];simp only;rw[if_pos d]
    have aa:(jW t.buf).holds=T:=by unfold jW;rw[hb]
    have ab: ∀O x,xI (jW t.buf) O x=xI t.buf O x:=λO x=>by unfold xI jW;rw[hb]
    refine⟨⟨N.closed.trans h.closed,N.workers.trans h.workers,ae.trans h.queue,λU t' e=> ?_,λU t' e k H=> ?_⟩, ?_⟩
    ·rw[G,qy] at e;split at e
     ·rename_i c;rw[c];exact h.org o t ht
     ·exact h.org U t' e
    ·rw[N.clock];rw[G,qy] at e;split at e
     ·injection e with e
      subst e;simp only at H ⊢;rw[I,aa] at H;rw[I,ab];exact h.wait o t ht k (by rw[hb];exact List.mem_cons_of_mem _ H)
     ·exact h.wait U t' e k H
    ·obtain⟨ai,ag,_⟩:=WR (f:=jg s) (g:=jg s.order) (a:=o) (by
      unfold jg;rw[G,qy,if_pos rfl,ht];simp only;rw[I,aa,hb,List.length_cons]) (λb ac=>by
      unfold jg
      rw[G,qy,if_neg ac]) orgs ζ
     have:=ag (h.org o t ht);unfold zX;exact⟨λ_=>by omega,τ⟩
theorem OnH.pick {J:List Og} {s:RmS} (h:OnH J s) (w:Og):OnH J (s.pick w true).1/\zX (s.pick w true).1<=zX s/\(w=(1,0)->0<zX s->zX (s.pick w true).1<zX s):=by
 obtain⟨w1,w2⟩:=w;have d:=(ye h.closed (w1,w2) true).1;have N: ∀s',OpP s s'->s'.queue=s.queue->s'.strs=s.strs->OnH J s'/\zX s'<=zX s:=λs' k H I=>by
  refine⟨⟨k.closed.trans h.closed,k.workers.trans h.workers,H.trans h.queue,λo t e=>h.org o t (by rw[<-I];exact e),λo t e x Y=>by rw[k.clock];exact h.wait o t (by rw[<-I];exact e) x Y⟩, ?_⟩;have:jg s'=jg s:=by funext o;unfold jg;rw[I]
  unfold zX;rw[this];exact Nat.le_refl _
 by_cases ho:(w1,w2)=((1,0):Og)
 ·rw[ho] at d ⊢;unfold RmS.pick;have:((1,0):Og)∈s.workers:=mem_workers.2 (Or.inr (Or.inl rfl));split
  ·have e:s.stepW (1,0) true=s.order:=by unfold RmS.stepW;rw[if_neg (by rw[h.closed];decide)];rfl
   rw[e];obtain⟨a,b,c⟩:=h.order;exact⟨a,c,λ_=>b⟩
  ·rename_i G;refine⟨h,Nat.le_refl _,λ_ aa=> ?_⟩;exfalso;unfold RmS.may at G;rw[decide_eq_true this,if_neg (by rw[h.closed];decide)] at G;unfold RmS.mayOpen at G;simp only[if_true,if_neg (by decide: ¬(1:Int)=0),Bool.true_and] at G;have O:s.ready=none:=by
    cases hr:s.ready with
    | none=>rfl
    | some o=>rw[hr] at G;exact(G rfl).elim
   have:=h.order.2.1 aa;have e:s.order=s:=by unfold RmS.order;rw[O]
   rw[e] at this;omega
 ·have key:OnH J (s.pick (w1,w2) true).1/\zX (s.pick (w1,w2) true).1<=zX s:=by
   unfold RmS.pick at d ⊢;split
   ·rename_i G;rw[if_pos G] at d;unfold RmS.may at G;rw[Bool.and_eq_true] at G;have U:=mem_workers.1 (of_decide_eq_true G.1);unfold RmS.stepW at d ⊢;rw[if_neg (by rw[h.closed];decide)] at d ⊢;rcases U with e | e | ⟨H,_,_⟩
    ·injection e with H I
     subst H;subst I;have:s.read=s:=by unfold RmS.read;rw[h.queue]
     simp only[if_true,this] at d ⊢;exact⟨h,Nat.le_refl _⟩
    ·exact(ho e).elim
    ·simp only at H;rcases H with rfl | rfl | rfl
     ·simp only[if_true,if_neg (by decide: ¬(2:Int)=0),if_neg (by decide: ¬(2:Int)=1)] at d ⊢;exact N _ d (zO s w2).queue (by unfold RmS.choose;cases qh s.lanes w2<;>rfl)
     ·simp only[if_true,if_neg (by decide: ¬(3:Int)=0),if_neg (by decide: ¬(3:Int)=1),if_neg (by decide: ¬(3:Int)=2)] at d ⊢;exact N _ d (zm s w2).queue (by unfold RmS.rewrite;cases qh s.lanes w2<;>rfl)
     ·simp only[if_neg (by decide: ¬(4:Int)=0),if_neg (by decide: ¬(4:Int)=1),if_neg (by decide: ¬(4:Int)=2),if_neg (by decide: ¬(4:Int)=3)] at d ⊢;exact N _ d (ku s w2 true).2 (by unfold RmS.write;cases qh s.lanes w2<;>rfl)
   ·exact⟨h,Nat.le_refl _⟩
  exact⟨key.1,key.2,λe=>(ho e).elim⟩
theorem GT {H:List Og} {s:RmS} (h:OnH H s) (d:List (List Og)) (J: ∀L∈d,((1,0):Og)∈L):OnH H (s.picks true d.flatten)/\zX (s.picks true d.flatten)<=zX s-d.length:=
 uv (step:=λs w=>(RmS.pick s w true).1) (Inv:=OnH H) (f:=zX) (P:=λt v=>v=(1,0)/\0<zX t)
  (λt v h=>(h.pick v).1) (λt v h=>(h.pick v).2.1)
  (λt v u h G=>by
   have:=(h.pick v).2.1;by_cases c:zX (t.pick v true).1<zX t
   ·exact Or.inl c
   ·exact Or.inr ⟨G.1,τ⟩)
  (λt v h G=>(h.pick v).2.2 G.1 G.2)
  [(1,0)] (λt h O=>⟨(1,0),List.mem_singleton.2 rfl,rfl,O⟩) d s h (λL N u I=>by rw[List.mem_singleton] at I;rw[I];exact J L N)
theorem OnH.onL {G:List Og} {s:RmS} (h:OnH G s) (d:zX s=0):OnL G s:=⟨h.closed,h.workers,h.queue,λo t H=>by
 unfold zX at d;rw[List.sum_eq_zero_iff_forall_eq_nat] at d;have:=d (jg s o) (List.mem_map.2 ⟨o,h.org o t H,rfl⟩);unfold jg at this;rw[H] at this
 exact List.length_eq_zero_iff.1 this⟩
structure BfK (c:CfR) (now:Int) (b:Jb):Prop where
 wait:b.wait=c.wait
 room:b.room=c.hold
 len:(b.holds.length:Int)<=c.hold
 at': ∀h∈b.holds,h.2.1<=now
def un (s:RmS):Prop:= ∀o t,qh s.strs o=some t->BfK s.cfg s.clock t.buf
theorem BfK.push {c:CfR} {G:Int} {b:Jb} (h:BfK c G b) (n x:Int):BfK c G (jF b n G x).1:=by
 unfold jF;split
 ·exact h
 ·split
  ·exact h
  ·split
   ·exact h
   ·rename_i H;refine⟨h.wait,h.room, ?_,λk d=> ?_⟩
    ·simp only;rw[VW];have:=h.room;omega
    ·rcases(gW _ _ _).1 d with rfl | d
     ·exact Int.le_refl _
     ·exact h.at' k d
theorem BfK.least {c:CfR} {d:Int} {b:Jb} (h:BfK c d b):BfK c d (jW b):=by
 unfold jW;cases hb:b.holds with
 | nil=>exact h
 | cons y T=>
  have:=h.len;rw[hb,List.length_cons] at this;exact⟨h.wait,h.room,by simp only;omega,λk G=>h.at' k (by rw[hb];exact List.mem_cons_of_mem _ G)⟩
theorem BfK.pop {c:CfR} {d:Int} {b:Jb} (h:BfK c d b) (n:Int):BfK c d (zV b n).1:=by
 unfold zV;cases b.holds with
 | nil=>exact h
 | cons y T=>
  simp only;split
  ·exact h.least
  ·exact h
theorem BfK.later {c:CfR} {d G:Int} {b:Jb} (h:BfK c d b) (I:d<=G):BfK c G b:=⟨h.wait,h.room,h.len,λk H=>Int.le_trans (h.at' k H) I⟩
def SmB (s s':RmS):Prop:= ∀o t',qh s'.strs o=some t'-> ∃t,qh s.strs o=some t/\t'.buf=t.buf
theorem SmB.refl (s:RmS):SmB s s:=λo t h=>⟨t,h,rfl⟩
theorem SmB.trans {s s' s'':RmS} (h:SmB s s') (k:SmB s' s''):SmB s s'':=λo t e=>by
 obtain⟨t1,a,b⟩:=k o t e;obtain⟨t2,c,d⟩:=h o t1 a;exact⟨t2,c,b.trans d⟩
theorem SmB.fold {α:Type} {f:RmS->α->RmS} (d: ∀s x,SmB s (f s x)): ∀(L:List α) (s:RmS),SmB s (L.foldl f s)
 | [],s=>SmB.refl s
 | x::L,s=>(d s x).trans (SmB.fold d L (f s x))
theorem SmB.put {s s':RmS} {o:Og} {t t':zu} (H:qh s.strs o=some t) (e:s'.strs=qw s.strs o t') (G:t'.buf=t.buf):SmB s s':=λI u d=>by
 rw[e,qy] at d;split at d
 ·rename_i c;injection d with d
  subst d;exact⟨t,by rw[c];exact H,G⟩
 ·exact⟨u,d,rfl⟩
theorem SmB.of {s s':RmS} (e:s'.strs=s.strs):SmB s s':=λo t h=>⟨t,by rw[<-e];exact h,rfl⟩
theorem SmB.ok {s s':RmS} (h:SmB s s') (H:un s) (d:s'.cfg=s.cfg) (G:s.clock<=s'.clock):un s':=λo t I=>by
 obtain⟨t1,a,b⟩:=h o t I;rw[b,d];exact(H o t1 a).later G
theorem Pb (s:RmS) (x:Int):SmB s (s.tell1 x):=by
 unfold RmS.tell1;split
 ·exact SmB.refl s
 ·split
  ·split
   ·exact SmB.refl s
   ·split
    ·split
     ·exact SmB.refl s
     ·rename_i t d;exact SmB.put d rfl rfl
    ·exact SmB.refl s
  ·exact SmB.refl s
theorem Pa (s:RmS) (o:Og):SmB s (s.tick1 o):=by
 unfold RmS.tick1;cases ht:qh s.strs o with
 | none=>exact SmB.refl s
 | some t=>
  simp only;split
  ·exact SmB.put ht (t':={t with asks:=(vF s.cfg.space s.cfg.retry t.asks (s.wants o) s.clock).1}) rfl rfl
  ·exact SmB.put ht rfl rfl
theorem un.step {s:RmS} (h:un s) (G:s.closed=false) (w:Og) (acc:Bool):un (s.stepW w acc):=by
 unfold RmS.stepW;rw[if_neg (by rw[G];decide)];split
 ·unfold RmS.read;cases hq:s.queue with
  | nil=>exact h
  | cons b q=>
   simp only;split
   ·unfold RmS.tell;split
    ·have k:=QB (xH (zi b).1) {{s with queue:=q} with cnt:={s.cnt with told:=s.cnt.told+1}};exact(SmB.fold (f:=RmS.tellS) (λs H=>SmB.fold (f:=RmS.tell1) Pb _ s) _ _).ok (s:={{s with queue:=q} with cnt:={s.cnt with told:=s.cnt.told+1}}) h k.cfg (Int.le_of_eq k.clock.symm)
    ·exact h
   ·unfold RmS.media;split
    ·cases qh ({s with queue:=q}:RmS).tab.o (xk b).1.sc with
     | none=>exact h
     | some o=>
      simp only;unfold RmS.accept;cases ht:qh ({s with queue:=q}:RmS).strs o with
      | none=>exact h
      | some t=>
       intro d t' e;simp only at e;rw[qy] at e;split at e
       ·injection e with e
        subst e;exact(h o t ht).push _ _
       ·exact h d t' e
    ·exact h
 ·split
  ·have k:=yT s;unfold RmS.order at k ⊢;cases hy:s.ready with
   | none=>exact h
   | some o=>
    rw[hy] at k;simp only at k ⊢;cases ht:qh s.strs o with
    | none=>exact h
    | some t=>
     rw[ht] at k;simp only at k ⊢;intro d t' e;rw[k.cfg,k.clock];unfold RmS.orderAt at e;rw[QM] at e;simp only at e;rw[qy] at e;split at e
     ·injection e with e
      subst e;exact(h o t ht).pop _
     ·exact h d t' e
  ·split
   ·exact(SmB.of (by unfold RmS.choose;cases qh s.lanes w.2<;>rfl)).ok h (zO s w.2).cfg (Int.le_of_eq (zO s w.2).clock.symm)
   ·split
    ·exact(SmB.of (by unfold RmS.rewrite;cases qh s.lanes w.2<;>rfl)).ok h (zm s w.2).cfg (Int.le_of_eq (zm s w.2).clock.symm)
    ·exact(SmB.of (by unfold RmS.write;cases qh s.lanes w.2<;>rfl)).ok h (ku s w.2 acc).1.cfg (Int.le_of_eq (ku s w.2 acc).1.clock.symm)
theorem un.pick {s:RmS} (h:un s) (d:s.closed=false) (w:Og) (acc:Bool):un (s.pick w acc).1:=by
 unfold RmS.pick;split
 ·exact h.step d w acc
 ·exact h
theorem un.picks (acc:Bool): ∀(L:List Og) {s:RmS},un s->s.closed=false->un (s.picks acc L)/\OpP s (s.picks acc L)
 | [],s,h,_=>⟨h,⟨rfl,λ_=>rfl,rfl,rfl⟩⟩
 | w::L,s,h,hc=>by
  have k:=(ye hc w acc).1;obtain⟨a,b⟩:=un.picks acc L (h.pick hc w acc) (k.closed.trans hc);exact⟨a,⟨b.closed.trans k.closed,λx=>(b.there x).trans (k.there x),b.cfg.trans k.cfg,b.clock.trans k.clock⟩⟩
def RmS.tickN (s:RmS):Nat->RmS
 | 0=>s
 | n+1=>(s.tick.1).tickN n
theorem Qz {s:RmS} (d:s.closed=false):s.tick.2=0/\s.tick.1.closed=false/\s.tick.1.clock=s.clock+1/\SmB s s.tick.1/\s.tick.1.cfg=s.cfg/\s.tick.1.lanes=s.lanes/\s.tick.1.queue=s.queue/\s.tick.1.book=s.book/\s.tick.1.pks=s.pks:=by
 unfold RmS.tick;rw[if_neg (by rw[d];decide)];have k:=gP s.origins {s with clock:=s.clock+1};refine⟨rfl, ?_,k.clock, ?_,k.cfg,k.lanes,k.queue,k.book,k.pks⟩
 ·exact(Xg s.origins {s with clock:=s.clock+1}).2.trans d
 ·have:=SmB.fold (f:=RmS.tick1) Pa s.origins {s with clock:=s.clock+1};exact this
theorem kS: ∀(n:Nat) {s:RmS},s.closed=false->(s.tickN n).closed=false/\(s.tickN n).clock=s.clock+n/\SmB s (s.tickN n)/\(s.tickN n).cfg=s.cfg/\(s.tickN n).lanes=s.lanes/\(s.tickN n).queue=s.queue/\(s.tickN n).book=s.book/\(s.tickN n).pks=s.pks
 | 0,s,hc=>⟨hc,by simp[RmS.tickN],SmB.refl s,rfl,rfl,rfl,rfl,rfl⟩
 | n+1,s,hc=>by
  obtain⟨_,d,G,a3,a4,a5,H,I,J⟩:=Qz hc;obtain⟨N,O,U,Y,aa,ab,ac,ad⟩:=kS n (s:=s.tick.1) d;refine⟨N, ?_,a3.trans U,Y.trans a4,aa.trans a5,ab.trans H,ac.trans I,ad.trans J⟩;have:(s.tickN (n+1)).clock=(s.tick.1.tickN n).clock:=rfl;rw[this,O,G];omega
theorem Wj {s:RmS} (ab:s.closed=false) (ad:s.queue=[]) (H:un s) (ac: ∀o t,qh s.strs o=some t->o∈orgs) (n:Nat) (ah:s.cfg.wait<=n):OnH s.workers (s.tickN n)/\zX (s.tickN n)<=9* s.cfg.hold.toNat:=by
 obtain⟨J,N,G,ae,O,U,af,ag⟩:=kS n ab;refine⟨⟨J,Qd (λx=>by rw[O]),U.trans ad,λo t d=> ?_,λo t d x I=> ?_⟩, ?_⟩
 ·obtain⟨t1,a,_⟩:=G o t d;exact ac o t1 a
 ·obtain⟨t1,a,e⟩:=G o t d;have k:=H o t1 a;rw[e] at I ⊢;have:=k.at' x I;have:=k.wait;unfold xI;rw[N];exact decide_eq_true τ
 ·have Y: ∀o,jg (s.tickN n) o<=s.cfg.hold.toNat:=λo=>by
   unfold jg;cases d:qh (s.tickN n).strs o with
   | none=>exact Nat.zero_le _
   | some t=>
    obtain⟨t1,a,e⟩:=G o t d;have k:=(H o t1 a).len;simp only;rw[e];omega
  have aa: ∀L:List Og,(L.map (jg (s.tickN n))).sum<=L.length* s.cfg.hold.toNat:=λL=>by
   induction L with
   | nil=>simp
   | cons o L ih=>
    have:=Y o;rw[List.map_cons,List.sum_cons,List.length_cons,Nat.add_mul];omega
  exact aa orgs
theorem ZO (acc:Bool) (L M:List Og) (s:RmS):s.picks acc (L++M)=(s.picks acc L).picks acc M:=by unfold RmS.picks;rw[List.foldl_append]
theorem Xl {R:Nat} (acc:Bool): ∀(L:List Og) {s:RmS},LkL R s.lanes->LkL R (s.picks acc L).lanes
 | [],_,h=>h
 | w::L,_,h=>Xl acc L (Gd h w acc)
theorem Z6 (d:List (List Og)) (n:Nat):d.flatten=(d.take n).flatten++(d.drop n).flatten:=by rw[<-List.flatten_append,List.take_append_drop]
theorem PV {G:List Og} {s:RmS} {R:Nat} (h:OnL G s) (af:LkL R s.lanes) (d:List (List Og)) (H:d.length=4* R) (I: ∀L∈d,∀w∈G,w∈L):
  OnL G (s.picks true d.flatten)/\ ∀x,x∈subIds->(qh s.lanes x).isSome=true->((s.picks true d.flatten).ln x).A=[]/\((s.picks true d.flatten).ln x).B=[]/\((s.picks true d.flatten).ln x).C=[]:=by
 have ag: ∀(L:List Og) {t:RmS},OnL G t->OnL G (t.picks true L):=λL=>by
  induction L with
  | nil=>intro t J;exact J
  | cons w L ih=>intro t J;exact ih (J.pick w).1
 refine⟨ag _ h,λx O Y=> ?_⟩;have N: ∀n:Int,(n=2∨n=3∨n=4)->((n,x):Og)∈G:=λn H=>by
  rw[<-h.workers];exact mem_workers.2 (Or.inr (Or.inr ⟨H,O,Y⟩))
 obtain⟨l,U⟩:=Option.isSome_iff_exists.1 Y;have e:s.ln x=l:=by unfold RmS.ln;rw[U];rfl
 have k:=af x l U;rw[<-e] at k;obtain⟨aa,ab,a3⟩:=GS h O k (d.take (3* R)) (λL q=>⟨I L (List.mem_of_mem_take q) _ (N 2 (Or.inl rfl)),I L (List.mem_of_mem_take q) _ (N 3 (Or.inr (Or.inl rfl)))⟩);have ak:JT (s.ln x)<=3* R:=by unfold JT;have:=k.A;have:=k.B;omega
 rw[List.length_take,H] at a3;have z:JT ((s.picks true (d.take (3* R)).flatten).ln x)=0:=by omega
 unfold JT at z;have ah:((s.picks true (d.take (3* R)).flatten).ln x).A=[]:=List.length_eq_zero_iff.1 τ;have ai:((s.picks true (d.take (3* R)).flatten).ln x).B=[]:=List.length_eq_zero_iff.1 τ;obtain⟨aj,ac,ad,ae⟩:=GR aa O ah ai (d.drop (3* R)) (λL q=>I L (List.mem_of_mem_drop q) _ (N 4 (Or.inr (Or.inr rfl))));rw[List.length_drop,H] at ae;have:=ab.C;rw[Z6 d (3* R),ZO];exact⟨ac,ad,List.length_eq_zero_iff.1 τ⟩
theorem U7 {s:RmS} (ab:s.closed=false) (au: ∀o t,qh s.strs o=some t->o∈orgs) (ak:un s) (al:LkL s.cfg.room.toNat s.lanes) (av:s.queue.length<=s.cfg.room.toNat) (G d:List (List Og)) (w:Nat) (ao:s.cfg.wait<=w)
  (ar:G.length=s.cfg.room.toNat) (aa:d.length=4* s.cfg.room.toNat+9* s.cfg.hold.toNat) (aq: ∀L∈G,∀v∈s.workers,v∈L) (af: ∀L∈d,∀v∈s.workers,v∈L) (s1 s3:RmS)
  (ai:s.picks true G.flatten=s1) (am: ∀o t,qh s1.strs o=some t->o∈orgs) (aj:(s1.tickN w).picks true d.flatten=s3):
  s1.queue=[]/\s1.closed=false/\OnL s.workers s3/\zX (s1.tickN w)<=9* s.cfg.hold.toNat/\ ∀x,x∈subIds->(s3.ln x).A=[]/\(s3.ln x).B=[]/\(s3.ln x).C=[]:=by
 obtain⟨H,N,a3⟩:=Uq ab true G (λL q=>aq L q _ (mem_workers.2 (Or.inl rfl)));obtain⟨O,I⟩:=un.picks true G.flatten ak ab;have ae:=Xl true G.flatten al;rw[ai] at H N a3 O I ae;have ag:s1.queue=[]:=List.length_eq_zero_iff.1 τ;obtain⟨c1,c2⟩:=Wj H ag O am w (by rw[I.cfg];exact ao);rw[I.cfg] at c2;rw[N] at c1;obtain⟨_,_,_,_,t5,_⟩:=kS w H;obtain⟨U,ah⟩:=GT c1 (d.take (9* s.cfg.hold.toNat)) (λL q=>af L (List.mem_of_mem_take q) _ (mem_workers.2 (Or.inr (Or.inl rfl))));rw[List.length_take,aa] at ah;have z:zX ((s1.tickN w).picks true (d.take (9* s.cfg.hold.toNat)).flatten)=0:=by omega
 have ap:=Xl (R:=s.cfg.room.toNat) true (d.take (9* s.cfg.hold.toNat)).flatten (s:=s1.tickN w) (by rw[t5];exact ae);obtain⟨J,Y⟩:=PV (U.onL z) ap (d.drop (9* s.cfg.hold.toNat)) (by rw[List.length_drop,aa];omega) (λL q v an=>af L (List.mem_of_mem_drop q) v an);rw[<-ZO,<-Z6,aj] at J Y;refine⟨ag,H,J,c2,λx ad=> ?_⟩;cases hs:(qh ((s1.tickN w).picks true (d.take (9* s.cfg.hold.toNat)).flatten).lanes x).isSome with
 | true=>exact Y x ad hs
 | false=>
  have ac:(qh s3.lanes x).isSome=false:=by
   cases h3:(qh s3.lanes x).isSome with
   | false=>rfl
   | true=>
    have:((2,x):Og)∈s3.workers:=mem_workers.2 (Or.inr (Or.inr ⟨Or.inl rfl,ad,h3⟩));rw[J.workers,<-U.workers] at this;rcases mem_workers.1 this with e | e | ⟨_,_,e⟩
    ·cases e
    ·cases e
    ·simp only at e;rw[hs] at e;cases e
  have:s3.ln x=ln0:=by
   unfold RmS.ln;cases hl:qh s3.lanes x with
   | none=>rfl
   | some l=>rw[hl] at ac;cases ac
  rw[this];exact⟨rfl,rfl,rfl⟩
theorem Va {N:List Og} {s:RmS} (h:OnL N s) (J: ∀x,x∈subIds->(s.ln x).A=[]/\(s.ln x).B=[]/\(s.ln x).C=[]) (I:OwO s):(∀x i,qh s.book (x,i)≠some 0)/\ ∀w,s.may w=false:=by
 have U: ∀x l,qh s.lanes x=some l->xJ l=[]:=λx l e=>by
  have H:s.ln x=l:=by unfold RmS.ln;rw[e];rfl
  obtain⟨a,b,c⟩:=J x (I.sub x l e).1;rw[H] at a b c;unfold xJ;rw[a,b,c];rfl
 refine⟨λx i e=> ?_,λw=> ?_⟩
 ·obtain⟨l,O,_,_,G⟩:=I.src x i e;rw[U x l O] at G;rcases G with G | ⟨o,t,k1,k2⟩ | G
  ·cases G
  ·rw[h.held o t k1] at k2;cases k2
  ·exact G
 ·cases d:s.may w with
  | false=>rfl
  | true=>
   exfalso;unfold RmS.may at d;rw[Bool.and_eq_true,if_neg (by rw[h.closed];decide)] at d;obtain⟨_,d⟩:=d;unfold RmS.mayOpen at d;split at d
   ·rw[h.queue] at d;cases d
   ·split at d
    ·rw[h.ready] at d;cases d
    ·cases hw:qh s.lanes w.2 with
     | none=>rw[hw] at d;cases d
     | some l=>
      rw[hw] at d;have H:s.ln w.2=l:=by unfold RmS.ln;rw[hw];rfl
      obtain⟨a,b,c⟩:=J w.2 (I.sub w.2 l hw).1;rw[H] at a b c;simp only at d;unfold zp at d;rw[a,b,c] at d;simp at d
structure Jv (c:CfR) (s:RmS):Prop where
 closed:s.closed=false
 cfg:s.cfg=c
 one:1<=s.cfg.room.toNat
 hold:0<=s.cfg.hold
 bf:un s
 lk:LkL s.cfg.room.toNat s.lanes
theorem Jv.of {c:CfR} {s s':RmS} (h:Jv c s) (G:s'.closed=s.closed) (d:s'.cfg=s.cfg) (H:un s') (I:LkL s.cfg.room.toNat s'.lanes):Jv c s':=⟨G.trans h.closed,d.trans h.cfg,by rw[d];exact h.one,by rw[d];exact h.hold,H,by rw[d];exact I⟩
theorem Ct {R:Nat} (h:1<=R) (m o q t:Int):LnK R (Yp R m o q t):=⟨rfl,h,Nat.zero_le _,Nat.zero_le _,Nat.zero_le _⟩
theorem Xo (c:CfR) (h:0<=c.hold) (G:Int):BfK c G (kG c).buf:=⟨rfl,rfl,h,λk d=>(by cases d)⟩
theorem Jv.act {c:CfR} {s:RmS} (h:Jv c s) (a:A22) (H:a.act≠8):Jv c (doR s a).1:=by
 by_cases ha1:a.act=1
 ·rw[CT a ha1];have k:=(ye h.closed a.w a.acc).1;exact h.of k.closed k.cfg (h.bf.pick h.closed a.w a.acc) (Gd h.lk a.w a.acc)
 ·have G:=h.closed;unfold doR;split
  ·unfold RmS.arrive
   repeat' split
   all_goals exact h.of rfl rfl h.bf h.lk
  ·split
   ·obtain⟨_,t1,t2,t3,t4,t5,_⟩:=Qz G;exact h.of (t1.trans G.symm) t4 (t3.ok h.bf t4 (by rw[t2];omega)) (by rw[t5];exact h.lk)
   ·split
    ·unfold RmS.publish;split
     ·exact h
     ·split
      ·refine h.of rfl rfl (λo t e=> ?_) h.lk;simp only at e;rw[qy] at e;split at e
       ·injection e with e;rw[<-e];exact Xo _ h.hold _
       ·rw[qy] at e;split at e
        ·injection e with e;rw[<-e];exact Xo _ h.hold _
        ·rw[qy] at e;split at e
         ·injection e with e;rw[<-e];exact Xo _ h.hold _
         ·exact h.bf o t e
      ·exact h
    ·split
     ·unfold RmS.join;split
      ·exact h
      ·split
       ·exact h.of rfl rfl h.bf (h.lk.put _ (Ct h.one _ _ _ _))
       ·exact h
     ·split
      ·unfold RmS.subscribe
       repeat' split
       all_goals first | exact h | skip
       rename_i l d;exact h.of rfl rfl h.bf (h.lk.put _ ((h.lk _ l d).want _))
      ·split
       ·unfold RmS.want
        repeat' split
        all_goals first | exact h | skip
        rename_i l d;exact h.of rfl rfl h.bf (h.lk.put _ ((h.lk _ l d).want _))
       ·split
        ·unfold RmS.leave
         repeat' split
         all_goals first | exact h | skip
         refine h.of rfl rfl h.bf λx l e=> ?_
         simp only at e;rw[kM] at e;split at e
         ·cases e
         ·exact h.lk x l e
        ·exact h
theorem Jv.start {c:CfR} (h:zR c=true):Jv c (wu c):=by
 obtain⟨G,d,_⟩:=vn h;unfold wA at d;exact⟨rfl,rfl,by show 1<=c.room.toNat;omega,by show 0<=c.hold;omega,λo t e=>(by cases e),λx l e=>(by cases e)⟩
def wl (L:List Og) (i:Nat):List Og:=(List.range L.length).map λk=>L.getD ((i+k)%L.length) (0,0)
def zc (L M:List Og):Nat->List Og
 | 0=>[]
 | n+1=>zc L M n++(M++wl L n)
theorem gT (L:List Og) (i:Nat):(wl L i).length=L.length:=by unfold wl;simp
theorem yW (L M:List Og): ∀n,(zc L M n).length=n* (M.length+L.length)
 | 0=>by simp[zc]
 | n+1=>by
  rw[zc,List.length_append,List.length_append,gT,yW L M n,Nat.add_mul];omega
theorem Cw {L:List Og} {w:Og} (h:w∈L) (i:Nat):w∈wl L i:=by
 obtain⟨j,d,rfl⟩:=List.mem_iff_getElem.1 h;have G:0<L.length:=by omega
 have I:i%L.length<L.length:=Nat.mod_lt _ G;refine List.mem_map.2 ⟨(j+(L.length-i%L.length))%L.length,List.mem_range.2 (Nat.mod_lt _ G), ?_⟩;have e:(i+(j+(L.length-i%L.length))%L.length)%L.length=j:=by
  rw[Nat.add_mod,Nat.mod_mod];rw[<-Nat.add_mod];have H:i+(j+(L.length-i%L.length))=j+(L.length* (i/L.length)+L.length):=by
   have:=Nat.div_add_mod i L.length;omega
  rw[H,show L.length* (i/L.length)+L.length=L.length* (i/L.length+1) by rw[Nat.mul_add,Nat.mul_one],Nat.add_mul_mod_self_left,Nat.mod_eq_of_lt d]
 rw[e,List.getD_eq_getElem?_getD,List.getElem?_eq_getElem d];rfl
section
variable {T:Nat->Tg} {w0 w w':World} {k:RmK} {vp vr:Value} {s:RmS} {F:List Nat}
theorem LI (h:RmX T w0 w k vp vr s F) {b:List Int} {H:Option Addr} {I:Nat} (av:SlI .u8 w (δ H b.length I) b) (N:Byt b) (ah:b≠[]-> ∀g,(δ H b.length I).ownBlock=some g->T g= .data/\g<w.heap.size):
  Calls prog 83 #[γ k.RQ,δ H b.length I] w λe w'=> ∃vx,e= .returned (.tuple #[vx,(!decide (s.queue.length<s.cfg.room.toNat)),ι 0])/\
   qF w0 w' k {s with queue:=if s.queue.length<s.cfg.room.toNat then s.queue++[b] else s.queue.tail++[b]} F/\qt F w w'/\qg (RgB k.RQ k.AQ) w w':=by
 obtain⟨f,Q,af,ag,ad,ae,css,g,a⟩:=h.que;obtain⟨t1,t2,_⟩:=h.all .queue;have ai:=g.fits;have aj:=a.len;have key: ∀{w':World} {D:Nat->Prop},qg (RgB k.RQ k.AQ) w w'->(∀c,D c->T c≠ .data∨w.heap.size<=c)->jp RBy D w' [δ H b.length I] b:=by
  intro w' D d G w'' al
  have s1:=av.off2 (D:=RgB k.RQ k.AQ) (λab c aa ac=>by
   have:=(ah ab c aa).1;rcases ac with rfl | rfl
   ·rw[t1] at this;cases this
   ·rw[t2] at this;cases this) d
  refine⟨_,rfl,s1.off2 (D:=D) (λab c aa ac=> ?_) al,N⟩;obtain⟨ap,aw⟩:=ah ab c aa;rcases G c ac with q | q
  ·exact q ap
  ·omega
 have ak: ∀{w':World} {D:Nat->Prop} {J:List (List Value)} {q':List (List Int)},zq (jp RBy (λb=>T b≠ .data) w) J q'->qg (RgB k.RQ k.AQ) w w'->(∀c,D c->T c≠ .data∨w.heap.size<=c)->zq (jp RBy D w') J q':=by
  intro w' D J q' a d G;have am:qg (λb=>T b≠ .data) w w':=d.mono λb N=>by
   rcases N with rfl | rfl
   ·rw[t1];simp
   ·rw[t2];simp
  exact a.mono λc y aq=>(aq.step am).other λb N=>(G b N).elim Or.inl (λx=>Or.inl (by rw[h.fresh b x];simp))
 by_cases hq:s.queue.length<s.cfg.room.toNat
 ·rw[if_pos hq,decide_eq_true hq];refine(UJ w _ _ _ f Q af ag ad ae css g τ H _ I).mono ?_;rintro e w' ⟨rfl,⟨ao,an,g'⟩,d⟩;obtain⟨U,Y⟩:=h.ring (q:=s.queue++[b]) d (λD G=>⟨_,_,_,_,_,_,_,g',(ak a d G).snoc (key d G)⟩);exact⟨_,rfl,U,Y,d⟩
 ·rw[if_neg hq,decide_eq_false hq];have O:Q.length=s.cfg.room.toNat:=by omega
  have ax:=g.pos
  match hQ:Q,a,O,g,aj,ai with
  | [],_,O,_,_,_=>simp at O;omega
  | c::J,a,O,g,aj,ai=>
   cases hs:s.queue with
   | nil=>rw[hs] at a;exact a.elim
   | cons b0 q0=>
    rw[hs] at a;obtain⟨v,rfl,⟨ar,au,rfl,_⟩,_⟩:=a.1.read;refine(UK w _ _ _ f ar _ au J af ag ad ae css g O H _ I).mono ?_;rintro e w' ⟨rfl,⟨ao,an,g'⟩,d⟩;obtain⟨U,Y⟩:=h.ring (q:=q0++[b]) d (λD G=>⟨_,_,_,_,_,_,_,g',(ak a.2 d G).snoc (key d G)⟩);exact⟨_,rfl,by rw[List.tail_cons];exact U,Y,d⟩
theorem Gx (aH:qF w0 w k s F) (b:List Int) (v:Value) (av:SlI .u8 w v b) (ao:Byt b) (ap:b.length<=1000000) (aI:0<=s.cnt.lost/\s.cnt.lost<=1000000000):
  Calls prog 33 #[γ k.R,v] w λe w'=>e= .returned (ι (s.arrive b).2)/\qF w0 w' k (s.arrive b).1 F/\qt F w w':=by
 obtain⟨T,vp,aS,h⟩:=aH;have d:=κ h;have aF:=β7 h.blk;obtain⟨aG,ab⟩:=ν (s.closed);rw[ab] at aF;have ag:=κ ab;clear ab h;cases aG with
 | true=>
  have H:Hid (s.arrive b=(s,7)):=κ (by unfold RmS.arrive;rw[if_pos ag.o]);rw[H.o]
  go_enter func33,ntmps33
  go_wp2;go_ret;exact⟨rfl,d.o.at,qt.refl _ _⟩
 | false=>
  obtain⟨ak,ac⟩:=ν ((!decide (s.queue.length<s.cfg.room.toNat)));obtain⟨J,ad⟩:=ν ((if s.queue.length<s.cfg.room.toNat then s.queue++[b] else s.queue.tail++[b]))
  have H:Hid (s.arrive b=if ak then ({s with queue:=J,cnt:={s.cnt with lost:=s.cnt.lost+1}},0) else ({s with queue:=J},0)):=κ (by
   have aP:=d.o.que.fit;rw[<-ac,<-ad];unfold RmS.arrive;rw[if_neg (by rw[ag.o];decide)];by_cases hc:s.queue.length<s.cfg.room.toNat
   ·rw[if_pos τ,decide_eq_true hc,if_pos hc];rfl
   ·rw[if_neg τ,decide_eq_false hc,if_neg hc]
    rfl)
  have aB:=κ (YE v b (w.drewN 1) (av.keep (qa.drewN w 1)) ap);have aA:=κ ao;have aC:=κ d.o.fresh;have aJ: ¬RgB k.RQ k.AQ k.R:=by
   obtain⟨au,J,_⟩:=d.o.all .queue;rintro(e | e)
   ·rw[<-e,(d.o.all .room).1] at au;cases au
   ·rw[<-e,(d.o.all .room).1] at J;cases J
  have ay:=λ(x:qu (RgB k.RQ k.AQ) w)=>β10 (x.h.blk d.o.blk aJ)
  obtain⟨aQ,aR⟩:=aI;have aD:Hid ((b.length:Int)<=9223372036854775807):=κ τ;clear av ao ap
  go_enter func33,ntmps33
  go_upto_region 3 with fail
  refine QN (RgB k.RQ k.AQ) w 14 14 [5,6] ?_
  refine Qs5 ?_
  (refine Ql ?_;intro K I)
  (with_reducible refine aB.o.mono ?_)
  rintro e w5 ⟨⟨v5,rfl,O⟩,ar⟩;have N:Hid (qa w w5):=κ ((qa.drewN w 1).trans ar);have aa:=κ (SlI.of_owns O aD.o);have az:Hid (∀g,v5.ownBlock=some g->w.heap.size<=g):=κ (λg G=>j8 O G);obtain⟨aK,aL,rfl⟩:=xG O;clear O ar;refine⟨_,rfl,qi (qg.of_more N.o),I _ _ ?_⟩;clear I K ay
  obtain⟨aM,ax,an,_⟩:=(d.o.on N.o).data (λg=>b≠[]/\(δ aK b.length aL).ownBlock=some g) (λg G=>by
   have al:w.heap.size<=g:=az.o g G.2
   exact⟨aC.o g al,Nat.le_trans d.o.more.size al,aa.o.old G.1 G.2,λhF=>by have:=(d.o.law g hF).2.2;omega⟩)
  have ah:=κ (LI ax aa.o aA.o (λaq g G=>⟨an g ⟨aq,G⟩,aa.o.old aq G⟩));rw[ac,ad] at ah;have aE:=κ (d.o.at.stay N.o);clear ax an ac ad
  (refine Ql ?_;intro K I)
  (with_reducible refine ah.o.mono ?_)
  rintro e w6 ⟨aT,rfl,am,aw,aj⟩;have Y:=κ am;have ai:=κ (aE.o.trans aw);have ae:Hid (qg (RgB k.RQ k.AQ) w w6):=κ ((qg.of_more N.o).trans aj);clear am aw aj;refine⟨_,rfl,qi ae.o,I _ _ ?_⟩;clear I K
  iterate 7 (refine qD rfl rfl (qi ae.o) ?_;intro K I;go_big_quiet_op;go_big_quiet_on)
  refine qv ?_;obtain⟨_,_,U⟩:=Y.o.blk;have aN:=β16 U;have aO:=qd U 16;clear U;cases ak with
  | false=>
   go_wp2;go_ret;exact⟨by rw[H.o];rfl,by rw[H.o];exact Y.o,ai.o⟩
  | true=>
   have af:=κ (Y.o.cell 16 (ι (s.cnt.lost+1)) (s':={s with queue:=J,cnt:={s.cnt with lost:=s.cnt.lost+1}}) (λ_ _=>rfl) ⟨rfl,rfl,rfl,rfl,rfl,rfl,rfl,rfl,rfl⟩);go_wp2;go_ret;exact⟨by rw[H.o];rfl,by rw[H.o];exact af.o.1,ai.o.trans af.o.2⟩
end
theorem zw.wide {I G:Nat->Prop} {w:World} {L:Nat} {l:LnS} (h:zw I w L l) (H: ∀b,I b->G b) (N: ∀b,G b->b<w.heap.size):zw G w L l:=by
 obtain⟨k,vo,e,x⟩:=h;have J: ∀b,lnE G k vo b->lnE I k vo b:=λb d=>d.elim (λq=>Or.inl λn=>q (H b n)) Or.inr
 have a:qg (λ_=>False) w w:=qg.refl _ w
 exact⟨k,vo,e,⟨N,λb d=>H b (x.muts b d),x.dist,x.blk,x.r1.step a (λq=>q) (λq=>q) (λb q=>q.elim) (λb d=>Or.inl (J b d)),x.r2.step a (λq=>q) (λq=>q) (λb q=>q.elim) (λb d=>Or.inl (J b d)),x.r3.step a (λq=>q) (λq=>q) (λb q=>q.elim) (λb d=>Or.inl (J b d)),
  ⟨by
   obtain⟨⟨xs,o,r⟩,_⟩:=x.o
   exact⟨xs,o,λi hi=>(r i hi).other λb d=>Or.inl (d.elim (λq=>Or.inl λn=>q (H b n)) Or.inr)⟩,λb d q=>x.o.apart b d (λn=>q (H b n))⟩,x.ok⟩⟩
section
variable {T:Nat->Tg} {w0 w w1 w':World} {k:RmK} {vp vr:Value} {s:RmS} {F:List Nat}
theorem RmX.laneNew (h:RmX T w0 w k vp vr s F) {x:Int} {l:LnS} {p:Nat} (m:qa w w1) (U:zw (λb=>w.heap.size<=b/\b<w1.heap.size) w1 p l)
  (ae:jh w' k.ML (Value.int .i64) gm (qw k.LA x p)) (a:qg (λb=>b=k.ML) w1 w'):qF w0 w' {k with LA:=qw k.LA x p} {s with lanes:=qw s.lanes x l} F/\qt F w w':=by
 obtain⟨N,Y⟩:=h.all .lns;have I:=h.fresh;have ag:=Y.lt;have J:qg (λb=>T b= .lane x∨T b= .lns) w w':=(qg.of_more m).trans (a.mono λb d=>Or.inr (by rw[d];exact N));have aa:w1.heap.size<=w'.heap.size:=a.size;obtain⟨y,z⟩:=h.own2 (t1:= .lane x) (t2:= .lns) (k':={k with LA:=qw k.LA x p}) (vp':=vp) (vr':=vr) (s':={s with lanes:=qw s.lanes x l}) ⟨η,η⟩ ⟨η,η⟩ J
  ⟨λaj ai G H=>by
   simp only at G H;rw[xC] at G H;injection G with G
   injection H with H
   subst G H;refine(U.away a (λb d ad=>by rw[d] at ad;omega)).wide (λb d=>(qZ I η b).2 (Or.inr ⟨rfl,d.1,Nat.lt_of_lt_of_le d.2 aa⟩)) (λb d=> ?_);rcases(qZ I η b).1 d with q | q
   ·rcases Nat.lt_or_ge b w.heap.size with c | c
    ·exact Nat.lt_of_lt_of_le c J.size
    ·rw[I b c] at q;cases q
   ·exact q.2.2,by simp only[xC];rfl⟩
  ⟨(jC I η η _).2 N,ae⟩
  (λu ab ac ah y=>by
   cases u<;>first | exact y | exact absurd rfl ac | skip
   rename_i af;have O:af≠x:=λe=>ab (by rw[e])
   unfold RmK.Holds at y ⊢;simp only;rw[vI _ _ O,vI _ _ O]
   exact y)
 exact⟨⟨_,_,_,y⟩,z⟩
theorem RmX.strNew (h:RmX T w0 w k vp vr s F) {o:Og} {t:zu} {p d:Nat} {v:Value} (m:qa w w1) (ae:w.heap.size<=p/\p<w1.heap.size) (ac:w.heap.size<=d/\d<w1.heap.size) (O:p≠d)
  (blk:w1.heap[p]? =some (.cells (gQ d t) 176 (0,0))) (buf:xX w1 d v t.buf) (aj:JOK t.buf) (ab:v.ownBlock=none)
  (ai:jh w' k.MS kO gm (qw k.SA o p)) (a:qg (λb=>b=k.MS) w1 w'):qF w0 w' {k with SA:=qw k.SA o p} {s with strs:=qw s.strs o t} F/\qt F w w':=by
 obtain⟨aa,ad⟩:=h.all .sts;have N:=h.fresh;have al:=ad.lt;have Y:qg (λb=>T b= .str o∨T b= .sts) w w':=(qg.of_more m).trans (a.mono λb G=>Or.inr (by rw[G];exact aa));have af:w1.heap.size<=w'.heap.size:=a.size;have U: ∀b,w.heap.size<=b/\b<w1.heap.size->jU T (.str o) w w' b= .str o:=λb G=>(qZ N η b).2 (Or.inr ⟨rfl,G.1,Nat.lt_of_lt_of_le G.2 af⟩)
 obtain⟨y,z⟩:=h.own2 (t1:= .str o) (t2:= .sts) (k':={k with SA:=qw k.SA o p}) (vp':=vp) (vr':=vr) (s':={s with strs:=qw s.strs o t}) ⟨η,η⟩ ⟨η,η⟩ Y
  ⟨λan am I J=>by
   simp only at I J;rw[xC] at I J;injection I with I
   injection J with J
   subst I J;refine⟨d,v,a.blk blk τ,⟨a.blk buf.blk τ,buf.row.away a (λg H=>by rw[ab] at H;cases H)⟩,aj,λb G=> ?_,U _ ae,U _ ac,O,λg H=>by rw[ab] at H;cases H⟩;rcases(qZ N η b).1 G with q | q
   ·rcases Nat.lt_or_ge b w.heap.size with c | c
    ·exact Nat.lt_of_lt_of_le c Y.size
    ·rw[N b c] at q;cases q
   ·exact q.2.2,by simp only[xC];rfl⟩
  ⟨(jC N η η _).2 aa,ai⟩
  (λu ag ah U y=>by
   cases u<;>first | exact y | exact absurd rfl ah | skip
   rename_i ak;have O:ak≠o:=λe=>ag (by rw[e])
   unfold RmK.Holds at y ⊢;simp only;rw[vI _ _ O,vI _ _ O]
   exact y)
 exact⟨⟨_,_,_,y⟩,z⟩
theorem PW {t:TS} {x d:Int} (h: ¬(yI t x d).2=0):(yI t x d).1=t:=by
 unfold yI at h ⊢;split
 ·rename_i G;rw[if_pos G] at h;split
  ·rfl
  ·rename_i H;rw[if_neg H] at h;exact absurd rfl h
 ·rfl
theorem Ir (aF:qF w0 w k s F) (an:zR s.cfg=true) (x d sq st:Int) (aq:U16 sq) (ap:U32 d):
  Calls prog 35 #[γ k.R,ι x,ω d,φ sq,ω st] w λe w'=> ∃k',k'.R=k.R/\e= .returned (ι (s.join x d sq st).2)/\qF w0 w' k' (s.join x d sq st).1 F/\qt F w w':=by
 obtain⟨T,vp,aL,h⟩:=aF;have ab:=κ h;have N:=κ (vn an);have aD:=β7 h.blk;have aJ:=β11 h.blk;obtain⟨aE,ah⟩:=ν (s.closed);rw[ah] at aD;have ad:=κ ah;clear ah h an;cases aE with
 | true=>
  have O:Hid (s.join x d sq st=(s,7)):=κ (by unfold RmS.join;rw[if_pos ad.o]);rw[O.o]
  go_enter func35,ntmps35
  go_wp2;go_ret;exact⟨k,rfl,rfl,ab.o.at,qt.refl _ _⟩
 | false=>
  have aa:=κ (LG ab.o.tab x d);obtain⟨af,H⟩:=ν ((yI s.tab x d).2);obtain⟨aG,ac⟩:=ν ((yI s.tab x d).1);by_cases e0:af=0
  ·subst e0;have O:Hid (s.join x d sq st=({s with tab:=aG,lanes:=qw s.lanes x (Yp s.cfg.room.toNat s.cfg.most d sq st)},0)):=κ (by unfold RmS.join;rw[if_neg (by rw[ad.o];decide),if_pos H,ac]);rw[H,ac] at aa;rw[O.o];clear H ac;have aA:=κ (λw'=>IQ s.cfg.room s.cfg.most d sq st s.cfg.room.toNat (by have:=N.o.1;omega) (by have:=N.o.1;omega) (by have:=N.o.1;omega) N.o.2.2.2.1 N.o.2.2.2.2 aq ap w');clear aq ap
   go_enter func35,ntmps35
   go_upto_region 6 with (go_at_call 87;(go_call aa.o as e w1 ⟨rfl,Y,U⟩;have J:=κ (KS ab.o Y U);clear Y U))
   obtain⟨aH,aK,aM,av⟩:=J.o.1;have G:=κ av;clear av;have aj: ¬k.R=k.ML:=λe=>by have q:=(G.o.all .room).1;rw[e,(G.o.all .lns).1] at q;cases q
   have ay: ∀y:qu (λb=>b=k.ML) w1,y.w'.cell? ⟨k.R,12,none⟩=some (.map (some k.ML)):=λy=>qb (y.h.blk G.o.blk aj) 12 rfl
   have ax: ∀y:qu (λb=>b=k.ML) w1,y.w'.cell? ⟨k.R,1,none⟩=some (ι s.cfg.room):=λy=>qb (y.h.blk G.o.blk aj) 1 rfl
   have az: ∀y:qu (λb=>b=k.ML) w1,y.w'.cell? ⟨k.R,6,none⟩=some (ι s.cfg.most):=λy=>qb (y.h.blk G.o.blk aj) 6 rfl
   refine QN (λb=>b=k.ML) w1 24 24 [19,23] ?_
   refine Ov ?_
   (refine Ql ?_;intro K I)
   go_call aA.o _ as e w5 ⟨L,rfl,au,ai⟩;have ae:Hid (qa w1 w5):=κ ((qa.drewN w1 1).trans ai);have am:=κ (G.o.on (qa.drewN w1 1));have al:=κ ai;have aB:=κ au;clear ai au;refine⟨_,rfl,qi (qg.of_more ae.o),I _ _ ?_⟩;clear I K
   iterate 3 (refine qD rfl rfl (qi (qg.of_more ae.o)) ?_;intro K I;go_big_quiet_op;go_big_quiet_on)
   clear ay ax az;obtain⟨w9,ar,ao,ag,_⟩:=(am.o.lnm.more al.o).update kJ underlying90 x L;have ak:=κ (am.o.laneNew al.o aB.o ao ag);have aC:=κ (G.o.at.stay (qa.drewN w1 1));unfold gm at ar;have aw:Hid (qg (λb=>b=k.ML) w1 w9):=κ ((qg.of_more ae.o).trans ag)
   (refine Ql ?_;intro K I)
   refine⟨qi aw.o,I _ _ ?_⟩;clear I K ao ag ar;refine qv ?_;go_wp2;go_ret;exact⟨{k with LA:=qw k.LA x L},rfl,rfl,ak.o.1,J.o.2.trans (aC.o.trans ak.o.2)⟩
  ·have aI:(af != 0)=true:=by simp[e0]
   have O:Hid (s.join x d sq st=(s,af)):=κ (by unfold RmS.join;rw[if_neg (by rw[ad.o];decide),H,if_neg e0]);rw[PW (by rw[H];exact e0),H] at aa;rw[O.o];clear H ac e0
   go_enter func35,ntmps35
   go_wp2_with (go_at_call 87;(go_call aa.o as e w1 ⟨rfl,Y,U⟩;have J:=κ (KS ab.o Y U);clear Y U))
   go_ret;exact⟨k,rfl,rfl,J.o.1,J.o.2⟩
end
def It (c:CfR) (p:Int) (m:List (Og×zu)):Nat->List (Og×zu)
 | 0=>m
 | i+1=>qw (It c p m i) (p,(i:Int)) (kG c)
theorem Ca {t:TS} {p s0 s1 s2:Int} (h: ¬(vD t p s0 s1 s2).2=0):(vD t p s0 s1 s2).1=t:=by
 unfold vD at h ⊢;split
 ·rename_i d;rw[if_pos d] at h;split
  ·rfl
  ·rename_i G;rw[if_neg G] at h;split
   ·rfl
   ·rename_i H;rw[if_neg H] at h;split
    ·rfl
    ·rename_i I;rw[if_neg I] at h;exact absurd rfl h
 ·rfl
section
variable {T:Nat->Tg} {w0 w w1 w':World} {k:RmK} {vp vr:Value} {s:RmS} {F:List Nat}
theorem Np {t:TS} (h:RmX T w0 w k vp vr s F) (b:jo w' k.tb k.ta k.tc k.td t) (a:qg (λx=>x=k.ta∨x=k.tc) w w'):qF w0 w' k {s with tab:=t} F/\qt F w w':=
 h.table b (a.mono λ_ e=>e.elim Or.inl λq=>Or.inr (Or.inl q))
theorem Kh (bh:qF w0 w k s F) (aK:zR s.cfg=true) (p s0 s1 s2:Int):
  Calls prog 45 #[γ k.R,ι p,θ #[ω s0,ω s1,ω s2]] w λe w'=> ∃k',k'.R=k.R/\e= .returned (ι (s.publish p s0 s1 s2).2)/\qF w0 w' k' (s.publish p s0 s1 s2).1 F/\qt F w w':=by
 obtain⟨T,vp,bo,h⟩:=bh;obtain⟨W1,J⟩:=ν (w.alloc (.cells #[ω s0,ω s1,ω s2] 40));have aD:Hid (qa w W1):=κ (by rw[<-J];exact qa.alloc _ _);have aU:Hid (W1.heap[w.heap.size]? =some (.cells #[ω s0,ω s1,ω s2] 40 (0,0))):=κ (by rw[<-J];exact qk w _);have d:=κ (h.on aD.o);have aF:=κ (h.at.stay aD.o);have az:=κ (vn aK);have bf:=β7 d.o.blk;obtain⟨bg,am⟩:=ν (s.closed);rw[am] at bf;have ad:=κ am;clear am aK;cases bg with
 | true=>
  have G:Hid (s.publish p s0 s1 s2=(s,7)):=κ (by unfold RmS.publish;rw[if_pos ad.o]);rw[G.o];clear h
  go_enter func45,ntmps45
  go_upto_region 1 with fail
  (try rw[J])
  clear J;go_wp2;go_ret;exact⟨k,rfl,rfl,d.o.at,aF.o⟩
 | false=>
  have af:=κ (DL (d.o.tab.more (qa.drewN W1 1)) p s0 s1 s2);unfold kP at af;obtain⟨aj,an⟩:=ν ((vD s.tab p s0 s1 s2).2);obtain⟨ar,ap⟩:=ν ((vD s.tab p s0 s1 s2).1);rw[an,ap] at af;have aS: ¬(k.R=k.ta∨k.R=k.tc):=by
   obtain⟨_,O,U,_⟩:=d.o.all .table;rintro(e | e)
   ·rw[<-e,(d.o.all .room).1] at O;cases O
   ·rw[<-e,(d.o.all .room).1] at U;cases U
  have aR: ¬(w.heap.size=k.ta∨w.heap.size=k.tc):=by
   obtain⟨_,O,U,_⟩:=h.all .table;have aT:=h.fresh w.heap.size (Nat.le_refl _);rintro(e | e)
   ·rw[<-e,aT] at O;cases O
   ·rw[<-e,aT] at U;cases U
  have aX:=λ(x:qu (λb=>b=k.ta∨b=k.tc) W1)=>β11 (x.h.blk d.o.blk aS)
  have aa:=λ(x:qu (λb=>b=k.ta∨b=k.tc) W1)=>x.h.blk aU.o aR
  have ba:=λx=>β0 (aa x);have bb:=λx=>β1 (aa x);have bc:=λx=>β2 (aa x);clear aa
  clear h aS aR;have ae:=κ an;have aB:=κ ap;clear an ap
  go_enter func45,ntmps45
  go_upto_region 1 with fail
  (try rw[J])
  clear J
  go_upto_region 3 with fail
  refine QN (λb=>b=k.ta∨b=k.tc) W1 8 8 [6] ?_
  refine Qs6 ?_
  (refine Ql ?_;intro K H)
  (with_reducible refine af.o.mono ?_)
  rintro e w2 ⟨rfl,aH,ai⟩;have av:Hid (qg (λb=>b=k.ta∨b=k.tc) W1 w2):=κ (((qg.refl _ W1).drewN 1).trans ai);have ac:=κ (Np (d.o.on (qa.drewN W1 1)) aH ai);have aG:=κ (aF.o.trans ((d.o.at.stay (qa.drewN W1 1)).trans ac.o.2));clear aH ai;refine⟨_,rfl,qi av.o,H _ _ ?_⟩;clear H K aX ba bb bc
  iterate 1 (refine qD rfl rfl (qi av.o) ?_;intro K H;go_big_quiet_op;go_big_quiet_on)
  refine qv ?_;by_cases e0:aj=0
  ·subst e0;have G:Hid (s.publish p s0 s1 s2=({s with tab:=ar,strs:=It s.cfg p s.strs 3},0)):=κ (by unfold RmS.publish;rw[if_neg (by rw[ad.o];decide),if_pos ae.o,aB.o];rfl);go_wp2
   go_loopw [25] (λaq wr=> ∃i:Nat,i<=3/\aq= ι i/\(∃I:RmK,I.R=k.R/\qF w0 wr I {s with tab:=ar,strs:=It s.cfg p s.strs i} F)/\qt F w2 wr) (λaq _=>3-(intOf aq).toNat)
   case atStart=>exact⟨0,τ,rfl,⟨k,rfl,ac.o.1⟩,qt.refl _ _⟩
   case round=>
    obtain⟨i,hi,rfl,⟨I,aL,aN⟩,aO⟩:=hrel;have aA:=κ aN;have aC:=κ aO;have Y:=κ aL;clear aN aO aL;by_cases hlt:i<3
    ·have bi:(i:Int)<3:=by omega
     obtain⟨bk,bn,bp,au⟩:=aA.o;have ah:=κ au;have ak:=au.blk;rw[Y.o] at ak;have ax:=κ ak;have aY: ∀y:qp wr,y.w'.cell? ⟨k.R,2,none⟩=some (ι s.cfg.hold):=λy=>qb (qc y.h ax.o) 2 rfl
     have aZ: ∀y:qp wr,y.w'.cell? ⟨k.R,3,none⟩=some (ι s.cfg.wait):=λy=>qb (qc y.h ax.o) 3 rfl
     have bd:=κ (YV s.cfg.hold s.cfg.wait (wr.drewN 1) az.o.2.1);clear au ak
     go_upto_region 9 with fail
     refine Qn wr 16 16 [10] ?_
     refine Ml ?_
     (refine Ql ?_;intro K H)
     (with_reducible refine bd.o.mono ?_)
     rintro e w5 ⟨rfl,aI,aQ,aP⟩;have ab:Hid (qa wr w5):=κ ((qa.drewN wr 1).trans aQ);have aV:Hid (xX w5 wr.heap.size (δ none 0 0) (Ez s.cfg.hold s.cfg.wait)):=κ aI;have ag:Hid (wr.heap.size<w5.heap.size):=κ aP;clear aI aQ aP;refine⟨_,rfl,qj ab.o,H _ _ ?_⟩;clear H K aY aZ
     iterate 5 (refine qD rfl rfl (qj ab.o) ?_;intro K H;go_big_quiet_op;go_big_quiet_on)
     refine qv ?_;obtain⟨W6,N⟩:=ν (w5.alloc (.cells #[γ wr.heap.size,false,ι 0,false,false,ι 0,ι 0,false] 176));have aE:Hid (qa wr W6):=κ (by rw[<-N];exact ab.o.al _);have aw:Hid (W6.heap[w5.heap.size]? =some (.cells (gQ wr.heap.size (kG s.cfg)) 176 (0,0))):=κ (by rw[<-N];exact qk w5 _);have aW:Hid (xX W6 wr.heap.size (δ none 0 0) (kG s.cfg).buf):=κ (by rw[<-N];exact aV.o.on (qa.alloc _ _));obtain⟨w9,bj,aM,aJ,_⟩:=(ah.o.stm.more aE.o).update YB underlying91 (p,(i:Int)) w5.heap.size;have ay:=κ (ah.o.strNew (t:=kG s.cfg) aE.o ⟨Nat.le_of_lt ag.o,ql aw.o⟩ ⟨Nat.le_refl _,Nat.lt_of_lt_of_le ag.o (by rw[<-N];exact(qa.alloc _ _).size)⟩ (λe=>by have:=ag.o;omega) aw.o aW.o (Fu az.o.2.1) rfl aM aJ);unfold gm kO at bj;have ao:=ah.o.blk;rw[Y.o] at ao;have bm:w5.cell? ⟨k.R,13,none⟩=some (.map (some I.MS)):=qb (qc ab.o ao) 13 rfl;clear aM aJ ao
     go_wp2_with ((try rw[N]);fail)
     go_roundw
     case rel=>exact⟨i+1,τ,by go_num,⟨{I with SA:=qw I.SA (p,(i:Int)) w5.heap.size},Y.o,ay.o.1⟩,aC.o.trans ay.o.2⟩
     case measure=>simp[intOf];omega
    ·obtain rfl:i=3:=by omega
     have bi: ¬((3:Nat):Int)<3:=by omega
     go_wp2;go_ret;exact⟨I,Y.o,by rw[G.o];rfl,by rw[G.o];exact aA.o,aG.o.trans aC.o⟩
  ·have bl:(aj != 0)=true:=by simp[e0]
   have G:Hid (s.publish p s0 s1 s2=(s,aj)):=κ (by unfold RmS.publish;rw[if_neg (by rw[ad.o];decide),ae.o,if_neg e0]);have be:Hid (ar=s.tab):=κ (by rw[<-aB.o];exact Ca (by rw[ae.o];exact e0));clear e0;go_wp2;go_ret;exact⟨k,rfl,by rw[G.o];rfl,by rw[G.o];have h:=ac.o.1;rw[be.o] at h;exact h,aG.o⟩
end
section
variable {w0 w w':World} {k:RmK} {s:RmS} {F:List Nat}
theorem RDo {n:Nat} (ao:qF w0 w k s F) (al:qX n s) (ap:n<=1000) (a:A22) (am:Option Addr) (ak:Nat) (aq:SlI .u8 w (δ am a.b.length ak) a.b) (U:Byt a.b) (ab:a.b.length<=400) (aa:U16 a.seq) (Y:U32 a.own):
  Calls prog 12 #[γ k.R,θ #[ι a.act,ι a.sub,ι a.pub,ι a.layer,δ am a.b.length ak,ι a.w.1,ι a.w.2,a.acc,ω a.own,ω a.stamp,φ a.seq,ω a.s0,ω a.s1,ω a.s2]] w λe w'=>
   ∃k',k'.R=k.R/\e= .returned (.tuple #[ι (doR s a).2.1,μ (doR s a).2.2])/\qF w0 w' k' (doR s a).1 F/\qt F w w':=by
 obtain⟨act,sub,pub,layer,b,⟨w1,w2⟩,acc,own,stamp,seq,s0,s1,s2⟩:=a;simp only at aq U ab aa Y ⊢;obtain⟨W1,G⟩:=ν (w.alloc (.cells #[ι act,ι sub,ι pub,ι layer,δ am b.length ak,ι w1,ι w2,acc,ω own,ω stamp,φ seq,ω s0,ω s1,ω s2] 42));have an:Hid (qa w W1):=κ (by rw[<-G];exact qa.alloc _ _);have O:Hid (W1.heap[w.heap.size]? =some (.cells #[ι act,ι sub,ι pub,ι layer,δ am b.length ak,ι w1,ι w2,acc,ω own,ω stamp,φ seq,ω s0,ω s1,ω s2] 42 (0,0))):=κ (by rw[<-G];exact qk w _);have ac:=κ (ao.on an.o);have ad:=κ (ao.stay an.o);have ah:=κ al;have ar:=κ (aq.keep an.o);have af:=al.num.lost;have ae:=al.num.book;have av:=β0 O.o;have c1:=β1 O.o;have c2:=β2 O.o;have c3:=β3 O.o;have c4:=β4 O.o;have c5:=β5 O.o;have aA:=β6 O.o;have aB:=β7 O.o;have aC:=β8 O.o;have aD:=β9 O.o;have aw:=β10 O.o;have ax:=β11 O.o;have ay:=β12 O.o;have az:=β13 O.o;have au:act=0∨act=1∨act=2∨act=3∨act=4∨act=5∨act=6∨act=7∨act=8∨ ¬(0<=act/\act<=8):=by omega
 clear ao al aq;rcases au with rfl | rfl | rfl | rfl | rfl | rfl | rfl | rfl | rfl | hno
 ·have J:=κ (Gx ac.o b _ ar.o U τ τ);have H:Hid (doR s ⟨0,sub,pub,layer,b,(w1,w2),acc,own,stamp,seq,s0,s1,s2⟩=((s.arrive b).1,(s.arrive b).2,false)):=κ rfl;rw[H.o];clear af ae U ab aa Y
  go_enter func12,ntmps12
  go_upto_region 1 with fail
  (try rw[G])
  clear G
  go_wp2_with (go_at_call 33;(go_call J.o as e ag ⟨rfl,d,t2⟩;have I:=κ d;have N:=κ t2;clear d t2))
  go_ret2
  exact⟨k,rfl,rfl,I.o,ad.o.trans N.o⟩
 ·have J:=κ (Iq ac.o ah.o τ w1 w2 acc);have H:Hid (doR s ⟨1,sub,pub,layer,b,(w1,w2),acc,own,stamp,seq,s0,s1,s2⟩=((s.pick (w1,w2) acc).1,0,(s.pick (w1,w2) acc).2)):=κ rfl;rw[H.o];clear af ae U ab aa Y
  go_enter func12,ntmps12
  go_upto_region 1 with fail
  (try rw[G])
  clear G
  go_wp2_with (go_at_call 31;(go_call J.o as e ag ⟨rfl,d,t2⟩;have I:=κ d;have N:=κ t2;clear d t2))
  go_ret2
  exact⟨k,rfl,rfl,I.o,ad.o.trans N.o⟩
 ·have J:=κ (Io ac.o ah.o ap);have H:Hid (doR s ⟨2,sub,pub,layer,b,(w1,w2),acc,own,stamp,seq,s0,s1,s2⟩=(s.tick.1,s.tick.2,false)):=κ rfl;rw[H.o];clear af ae U ab aa Y
  go_enter func12,ntmps12
  go_upto_region 1 with fail
  (try rw[G])
  clear G
  go_wp2_with (go_at_call 34;(go_call J.o as e ag ⟨rfl,d,t2⟩;have I:=κ d;have N:=κ t2;clear d t2))
  go_ret2
  exact⟨k,rfl,rfl,I.o,ad.o.trans N.o⟩
 ·have J:=κ (Kh ac.o ah.o.num.cfg pub s0 s1 s2);have H:Hid (doR s ⟨3,sub,pub,layer,b,(w1,w2),acc,own,stamp,seq,s0,s1,s2⟩=((s.publish pub s0 s1 s2).1,(s.publish pub s0 s1 s2).2,false)):=κ rfl;rw[H.o];clear af ae U ab aa Y
  go_enter func12,ntmps12
  go_upto_region 1 with fail
  (try rw[G])
  clear G
  go_wp2_with (go_at_call 45;(go_call J.o as e ag ⟨aj,ai,rfl,d,t2⟩;have I:=κ d;have N:=κ t2;clear d t2))
  go_ret2
  exact⟨aj,ai,rfl,I.o,ad.o.trans N.o⟩
 ·have J:=κ (Ir ac.o ah.o.num.cfg sub own seq stamp aa Y);have H:Hid (doR s ⟨4,sub,pub,layer,b,(w1,w2),acc,own,stamp,seq,s0,s1,s2⟩=((s.join sub own seq stamp).1,(s.join sub own seq stamp).2,false)):=κ rfl;rw[H.o];clear af ae U ab aa Y
  go_enter func12,ntmps12
  go_upto_region 1 with fail
  (try rw[G])
  clear G
  go_wp2_with (go_at_call 35;(go_call J.o as e ag ⟨aj,ai,rfl,d,t2⟩;have I:=κ d;have N:=κ t2;clear d t2))
  go_ret2
  exact⟨aj,ai,rfl,I.o,ad.o.trans N.o⟩
 ·have J:=κ (XP ac.o (ah.o.subs ap) sub pub layer);have H:Hid (doR s ⟨5,sub,pub,layer,b,(w1,w2),acc,own,stamp,seq,s0,s1,s2⟩=((s.subscribe sub pub layer).1,(s.subscribe sub pub layer).2,false)):=κ rfl;rw[H.o];clear af ae U ab aa Y
  go_enter func12,ntmps12
  go_upto_region 1 with fail
  (try rw[G])
  clear G
  go_wp2_with (go_at_call 46;(go_call J.o as e ag ⟨rfl,d,t2⟩;have I:=κ d;have N:=κ t2;clear d t2))
  go_ret2
  exact⟨k,rfl,rfl,I.o,ad.o.trans N.o⟩
 ·have J:=κ (Nn ac.o (ah.o.subs ap) sub layer);have H:Hid (doR s ⟨6,sub,pub,layer,b,(w1,w2),acc,own,stamp,seq,s0,s1,s2⟩=((s.want sub layer).1,(s.want sub layer).2,false)):=κ rfl;rw[H.o];clear af ae U ab aa Y
  go_enter func12,ntmps12
  go_upto_region 1 with fail
  (try rw[G])
  clear G
  go_wp2_with (go_at_call 36;(go_call J.o as e ag ⟨rfl,d,t2⟩;have I:=κ d;have N:=κ t2;clear d t2))
  go_ret2
  exact⟨k,rfl,rfl,I.o,ad.o.trans N.o⟩
 ·have J:=κ (LK ac.o τ sub);have H:Hid (doR s ⟨7,sub,pub,layer,b,(w1,w2),acc,own,stamp,seq,s0,s1,s2⟩=((s.leave sub).1,(s.leave sub).2,false)):=κ rfl;rw[H.o];clear af ae U ab aa Y
  go_enter func12,ntmps12
  go_upto_region 1 with fail
  (try rw[G])
  clear G
  go_wp2_with (go_at_call 47;(go_call J.o as e ag ⟨aj,ai,rfl,d,t2⟩;have I:=κ d;have N:=κ t2;clear d t2))
  go_ret2
  exact⟨aj,ai,rfl,I.o,ad.o.trans N.o⟩
 ·have J:=κ (Nr ac.o);have H:Hid (doR s ⟨8,sub,pub,layer,b,(w1,w2),acc,own,stamp,seq,s0,s1,s2⟩=(s.shut.1,s.shut.2,false)):=κ rfl;rw[H.o];clear af ae U ab aa Y
  go_enter func12,ntmps12
  go_upto_region 1 with fail
  (try rw[G])
  clear G
  go_wp2_with (go_at_call 28;(go_call J.o as e ag ⟨rfl,d,t2⟩;have I:=κ d;have N:=κ t2;clear d t2))
  go_ret2
  exact⟨k,rfl,rfl,I.o,ad.o.trans N.o⟩
 ·have H:Hid (doR s ⟨act,sub,pub,layer,b,(w1,w2),acc,own,stamp,seq,s0,s1,s2⟩=(s,0,false)):=κ (by
   unfold doR;simp only
   rw[if_neg τ,if_neg τ,if_neg τ,if_neg τ,if_neg τ,if_neg τ,if_neg τ,if_neg τ,if_neg τ])
  rw[H.o];clear af ae U ab aa Y;have aE:(act==0)=false:=by simp;omega
  have aF:(act==1)=false:=by simp;omega
  have aG:(act==2)=false:=by simp;omega
  have aH:(act==3)=false:=by simp;omega
  have aI:(act==4)=false:=by simp;omega
  have aJ:(act==5)=false:=by simp;omega
  have aK:(act==6)=false:=by simp;omega
  have aL:(act==7)=false:=by simp;omega
  have aM:(act==8)=false:=by simp;omega
  clear hno
  go_enter func12,ntmps12
  go_upto_region 1 with fail
  (try rw[G])
  clear G;go_wp2
  go_ret2
  exact⟨k,rfl,rfl,ac.o,ad.o⟩
end
def Yv:qJ A22:=λw cs a=> ∃vb,cs=[.int .i64 a.act,.int .i64 a.sub,.int .i64 a.pub,.int .i64 a.layer,vb,.int .i64 a.w.1,.int .i64 a.w.2,.bool a.acc,.int .u32 a.own,.int .u32 a.stamp,.int .u16 a.seq,.int .u32 a.s0,.int .u32 a.s1,.int .u32 a.s2]/\SlI .u8 w vb a.b/\(Byt a.b/\U32 a.own/\U16 a.seq/\ ∀v∈[a.s0,a.s1,a.s2],0<=v/\v<=4294967295)
theorem VU:wC Yv:=λ_ _ _ _ m ⟨vb,d,G,H⟩=>⟨vb,d,G.keep m,H⟩
def Md:qJ (Int×Int×Unit):=zd 1 (vd .i64) (zd 1 (vd .i64) GH)
theorem VD:jx prog 37 Md:=
 jx.struct underlying37 ξ (jE.cons rfl ξ (jx.int underlying3) (jE.cons rfl ξ (jx.int underlying3) jE.nil))
def Me:qJ (Int×Int×Int×Int×List Int×(Int×Int×Unit)×Bool×Int×Int×Int×List Int×Unit):=
 zd 1 (vd .i64) (zd 1 (vd .i64) (zd 1 (vd .i64) (zd 1 (vd .i64) (zd 1 (RSl 1 (vd .u8)) (zd 2 Md (zd 1 Ah (zd 1 (vd .u32) (zd 1 (vd .u32) (zd 1 (vd .u16) (zd 3 (Mi 3 1 (vd .u32)) GH))))))))))
theorem Ec {w:World} {cs:List Value} {y:Int×Int×Int×Int×List Int×(Int×Int×Unit)×Bool×Int×Int×Int×List Int×Unit} (ak:cs.length=14) (h:Me w cs y): ∃z,Yv w cs z:=by
 match cs,ak with
 | [k0,k1,k2,k3,k4,k5,k6,k7,k8,k9,k10,k11,k12,k13],_=>
  obtain⟨⟨O,_⟩,⟨U,_⟩,⟨aa,_⟩,⟨ab,_⟩,⟨ap,ac,ao⟩,⟨⟨ad,_⟩,⟨ae,_⟩,_⟩,af,⟨ag,aj⟩,⟨ah,_⟩,⟨Y,ai⟩,⟨_,I,J⟩,_⟩:=h;simp[Ah] at O U aa ab ac ad ae af ag ah Y;have d:=J 0 (by rw[I];omega);have G:=J 1 (by rw[I];omega);have H:=J 2 (by rw[I];omega);obtain⟨d,al⟩:=d;obtain⟨G,am⟩:=G;obtain⟨H,p2⟩:=H;simp at d G H;obtain⟨an,aq⟩:=ao.ints;refine⟨⟨_,_,_,_,_,(_,_),_,_,_,_,_,_,_⟩,ap,by rw[O,U,aa,ab,ac,ad,ae,af,ag,ah,Y,d,G,H],an,Byt.of_wf aq,bounds_u32 aj,bounds_u16 ai,λv N=> ?_⟩;simp at N;rcases N with rfl | rfl | rfl
  ·exact bounds_u32 al
  ·exact bounds_u32 am
  ·exact bounds_u32 p2
theorem Cm:jx prog 42 Yv:=λG H w base U J I cs x d=>by
 obtain⟨y,O⟩:=(jx.struct (R:=Me) underlying42 ξ (jE.cons rfl ξ (jx.int underlying3) (jE.cons rfl ξ (jx.int underlying3) (jE.cons rfl ξ (jx.int underlying3) (jE.cons rfl ξ (jx.int underlying3) (jE.cons rfl ξ (jx.sl underlying35 ξ ζ (jx.int underlying5)) (jE.cons rfl ξ VD (jE.cons rfl ξ (jx.bool underlying4) (jE.cons rfl ξ (jx.int underlying38) (jE.cons rfl ξ (jx.int underlying38) (jE.cons rfl ξ (jx.int underlying39) (jE.cons rfl ξ (jx.arr underlying40 ξ ξ (jx.int underlying38)) jE.nil)))))))))))) G H w base U J I cs x d;refine Ec ?_ O;obtain⟨_,_,_,_,N,_⟩:=DataW.trod_struct underlying42 d;rw[N]
 kernel_rfl
def Iz:qJ CfR:=λ_ cs c=>cs=[.int .i64 c.room,.int .i64 c.hold,.int .i64 c.wait,.int .i64 c.space,.int .i64 c.retry,.int .i64 c.most]
def Ih:qJ (Int×Int×Unit):=zd 1 (vd .i64) (zd 1 (vd .i64) GH)
theorem PB:jx prog 23 Ih:=
 jx.struct underlying23 ξ (jE.cons rfl ξ (jx.int underlying2) (jE.cons rfl ξ (jx.int underlying2) jE.nil))
theorem Cl:jx prog 25 Iz:=λY aa w base ae ac ab cs x G=>by
 obtain⟨y,ad⟩:=(jx.struct (R:=zd 1 (vd .i64) (zd 1 (vd .i64) (zd 1 (vd .i64) (zd 2 Ih (zd 1 (vd .i64) GH))))) underlying25 ξ (jE.cons rfl ξ (jx.int underlying3) (jE.cons rfl ξ (jx.int underlying3) (jE.cons rfl ξ (jx.int underlying2) (jE.cons rfl ξ PB (jE.cons rfl ξ (jx.int underlying3) jE.nil)))))) Y aa w base ae ac ab cs x G;have d:cs.length=6:=by
  obtain⟨_,_,_,_,d,_⟩:=DataW.trod_struct underlying25 G;rw[d]
  kernel_rfl
 match cs,d with
 | [k0,k1,k2,k3,k4,k5],_=>
  obtain⟨⟨H,_⟩,⟨I,_⟩,⟨J,_⟩,⟨⟨N,_⟩,⟨O,_⟩,_⟩,⟨U,_⟩,_⟩:=ad;simp at H I J N O U;exact⟨⟨_,_,_,_,_,_⟩,by rw[H,I,J,N,O,U];rfl⟩
def xy:A22:=⟨0,0,0,0,[],(0,0),false,0,0,0,0,0,0⟩
theorem Uh {w:World} {v:Value} {l:List A22} (h:SlP 14 Yv w v l): ∃G cap,v= δ G l.length cap/\(l.length:Int)<=9223372036854775807/\ ∀i,i<l.length-> ∃b I H d,G=some ⟨b,I,none⟩/\b<w.heap.size/\
  (∀w',qa w w'->w'.rangeAt b (I+i* 14) [ι (l.getD i xy).act,ι (l.getD i xy).sub,ι (l.getD i xy).pub,ι (l.getD i xy).layer,δ H (l.getD i xy).b.length d,ι (l.getD i xy).w.1,ι (l.getD i xy).w.2,μ (l.getD i xy).acc,ω (l.getD i xy).own,ω (l.getD i xy).stamp,φ (l.getD i xy).seq,ω (l.getD i xy).s0,ω (l.getD i xy).s1,ω (l.getD i xy).s2])/\
  SlI .u8 w (δ H (l.getD i xy).b.length d) (l.getD i xy).b/\(Byt (l.getD i xy).b/\U32 (l.getD i xy).own/\U16 (l.getD i xy).seq/\ ∀v∈[(l.getD i xy).s0,(l.getD i xy).s1,(l.getD i xy).s2],0<=v/\v<=4294967295):=by
 obtain⟨G,cap,Y,aa,ab,af⟩:=id h;refine⟨G,cap,Y,aa,λi hi=> ?_⟩;obtain⟨b,I,cs,e,J,ag,ac,vb,rfl,O,ae⟩:=ab i hi;have U:l.getD i xy=l[i]:=by simp[hi]
 rw[U];obtain⟨H,d,rfl,_⟩:=id O;refine⟨b,I,H,d,e,J,λw' m j v N=> ?_,O,ae⟩;have ad:j<14:=(List.getElem?_eq_some_iff.1 N).1;rw[m.cells b _ J,ac j ad];exact N
def vJ (l:List A22):Bool:=decide (120<l.length)||l.any λx=>decide (400<x.b.length)
theorem Cy {l:List A22} (h:vJ l=false):l.length<=120/\ ∀i,i<l.length->(l.getD i xy).b.length<=400:=by
 unfold vJ at h;rw[Bool.or_eq_false_iff] at h;refine⟨by simpa using h.1,λi hi=> ?_⟩;have:=List.any_eq_false.1 h.2 l[i] (List.getElem_mem hi);have d:l.getD i xy=l[i]:=by simp[hi]
 rw[d]
 simpa using this
theorem Gq (v:Value) (l:List A22) (w:World) (af:SlP 14 Yv w v l):Calls prog 10 #[v] w λe w'=>e= .returned (μ (vJ l))/\qa w w':=by
 obtain⟨au,cap,rfl,ar,I⟩:=Uh af;clear af;by_cases jg:(l.length:Int)<=120
 ·go_enter func10,ntmps10
  go_wp2
  go_loopw [10] (λi wr=> ∃j:Nat,j<=l.length/\i= ι j/\(∀i,i<j-> ¬400<(l.getD i xy).b.length)/\qa w wr) (λi _=>l.length-(intOf i).toNat)
  case atStart=>exact⟨0,τ,rfl,λi hi=>by omega,qa.refl _⟩
  case round=>
   obtain⟨j,aq,rfl,H,d⟩:=hrel;by_cases hlt:j<l.length
   ·obtain⟨b,ae,ad,ac,rfl,ap,aa,_⟩:=I j hlt;have O:=κ (aa wr d);have ao:(j:Int)<(l.length:Int):=by omega
    have ag:=κ H;have G:=κ d
    have ak:Hid (400<(l.getD j xy).b.length->vJ l=true):=κ (λh=>by
     unfold vJ;rw[Bool.or_eq_true]
     exact Or.inr (List.any_eq_true.2 ⟨l.getD j xy,by simp[hlt],by simpa using h⟩))
    generalize J:l.getD j xy=x at *;have aj:=κ J;clear H aa d J I jg;by_cases an:(400:Int)<(x.b.length:Int)
    ·have N:=κ (ak.o τ)
     go_wp2_with (refine wpList_load_mid rfl 42 (.tmp 12) rfl b (ae+j* 14) rfl [ι x.act,ι x.sub,ι x.pub,ι x.layer,δ ad x.b.length ac,ι x.w.1,ι x.w.2,x.acc,ω x.own,ω x.stamp,φ x.seq,ω x.s0,ω x.s1,ω x.s2] _ O.o underlying42 rfl ξ ?_)
     go_ret;exact⟨by rw[N.o];rfl,G.o.al _⟩
    ·have U: ¬400<x.b.length:=by omega
     have ah:Hid (∀i,i<j+1-> ¬400<(l.getD i xy).b.length):=κ (λi hi=>by
      by_cases e:i<j
      ·exact ag.o i e
      ·obtain rfl:i=j:=by omega
       rw[aj.o];exact U)
     clear U
     go_wp2_with (refine wpList_load_mid rfl 42 (.tmp 12) rfl b (ae+j* 14) rfl [ι x.act,ι x.sub,ι x.pub,ι x.layer,δ ad x.b.length ac,ι x.w.1,ι x.w.2,x.acc,ω x.own,ω x.stamp,φ x.seq,ω x.s0,ω x.s1,ω x.s2] _ O.o underlying42 rfl ξ ?_)
     go_roundw
     case rel=>exact⟨j+1,τ,by go_num,ah.o,G.o.al _⟩
     case measure=>simp[intOf];omega
   ·obtain rfl:j=l.length:=by omega
    have ao: ¬(l.length:Int)<(l.length:Int):=by omega
    have Y:vJ l=false:=by
     unfold vJ;rw[Bool.or_eq_false_iff];refine⟨by simp;omega,List.any_eq_false.2 λx J=> ?_⟩;obtain⟨i,hi,rfl⟩:=List.mem_iff_getElem.1 J;have:=H i hi;have am:l.getD i xy=l[i]:=by simp[hi]
     rw[am] at this
     simpa using this
    have ai:=κ Y;have G:=κ d;clear Y H I d;go_wp2;go_ret;exact⟨by rw[ai.o];rfl,G.o⟩
 ·have ab:vJ l=true:=by
   unfold vJ;rw[Bool.or_eq_true];exact Or.inl (by simp;omega)
  have N:=κ ab;have an:(120:Int)<(l.length:Int):=by omega
  clear I ab jg
  go_enter func10,ntmps10
  go_wp2;go_ret;exact⟨by rw[N.o];rfl,qa.refl _⟩
section
variable {P:Program} {C:World->Prop} {K:Act->World->Prop} {a:Act} {w:World} {d:Option Tmp} {t:TypeId} {ty:TypeId} {ps:String} {af:Array Edge}
theorem Xp (h:C (w.alloc (.map #[] 0))/\K (a.put d (.map (some w.heap.size))) (w.alloc (.map #[] 0))):jl P C {dst:=d,op:= .makeMap t none,type:=ty,pos:=ps,after:=af,guard:=none} a w K:=by
 unfold jl execOp;simp only[Option.map_none,Sem.run_bind,run_makeMap,Result.andThen_ok,Sem.run_pure];exact h
end
section
variable {C:World->Prop} {K:Act->World->Prop} {a:Act} {w:World} {d:Option Tmp} {ty:TypeId} {ps:String} {af:Array Edge}
theorem PM (h:Calls prog 43 #[] w λe w''=> ∃v,e= .returned v/\C w''/\K (a.put d v) w''):jl prog C {dst:=d,op:= .call {callee:= .value (.func 43),args:= #[],argTypes:= #[]},type:=ty,pos:=ps,after:=af,guard:=none} a w K:=by
 unfold jl;go_simp;exact h
theorem UX (h:Calls prog 44 #[] w λe w''=> ∃v,e= .returned v/\C w''/\K (a.put d v) w''):jl prog C {dst:=d,op:= .call {callee:= .value (.func 44),args:= #[],argTypes:= #[]},type:=ty,pos:=ps,after:=af,guard:=none} a w K:=by
 unfold jl;go_simp;exact h
end
theorem uR (a:Act) (i:Nat) (v u:Value):(a.put (some i) v).put (some i) u=a.put (some i) u:=by
 simp[Act.put]
theorem zM (a:Act) {i j:Nat} (v u:Value) (h:i≠j):(a.put (some i) v).put (some j) u=(a.put (some j) u).put (some i) v:=
 Act.put_comm a v u (λG d e=>h (by injection d with d;injection e with e;omega))
theorem kq (a:Act) (i:Nat) (h:i<a.tmps.size):a.put (some i) (a.tmps.getD i undef)=a:=by
 obtain⟨t,d⟩:=a;have e:t.setIfInBounds i (t.getD i undef)=t:=by
  apply Array.ext
  ·simp
  ·intro j H G;rw[Array.getElem_setIfInBounds];split
   ·rename_i q;subst q;simp[G]
   ·rfl
 show Act.mk (t.setIfInBounds i (t.getD i undef)) d=⟨t,d⟩;rw[e]
structure Xs where
 x42:Value
 x43:Value
 x45:Value
 x47:Value
 x48:Value
 x49:Value
def pA (A:Act) (x:Xs):Act:=(((((A.put (some 42) x.x42).put (some 43) x.x43).put (some 45) x.x45).put (some 47) x.x47).put (some 48) x.x48).put (some 49) x.x49
theorem MH (A:Act) (x:Xs) (v:Value):(pA A x).put (some 42) v=pA A {x with x42:=v}:=by
 unfold pA;rw[zM (i:=49) (j:=42) _ x.x49 v ζ,zM (i:=48) (j:=42) _ x.x48 v ζ,zM (i:=47) (j:=42) _ x.x47 v ζ,zM (i:=45) (j:=42) _ x.x45 v ζ,zM (i:=43) (j:=42) _ x.x43 v ζ,uR]
theorem MG (A:Act) (x:Xs) (v:Value):(pA A x).put (some 43) v=pA A {x with x43:=v}:=by
 unfold pA;rw[zM (i:=49) (j:=43) _ x.x49 v ζ,zM (i:=48) (j:=43) _ x.x48 v ζ,zM (i:=47) (j:=43) _ x.x47 v ζ,zM (i:=45) (j:=43) _ x.x45 v ζ,uR]
theorem MF (A:Act) (x:Xs) (v:Value):(pA A x).put (some 45) v=pA A {x with x45:=v}:=by
 unfold pA;rw[zM (i:=49) (j:=45) _ x.x49 v ζ,zM (i:=48) (j:=45) _ x.x48 v ζ,zM (i:=47) (j:=45) _ x.x47 v ζ,uR]
theorem ME (A:Act) (x:Xs) (v:Value):(pA A x).put (some 47) v=pA A {x with x47:=v}:=by
 unfold pA;rw[zM (i:=49) (j:=47) _ x.x49 v ζ,zM (i:=48) (j:=47) _ x.x48 v ζ,uR]
theorem MC (A:Act) (x:Xs) (v:Value):(pA A x).put (some 48) v=pA A {x with x48:=v}:=by
 unfold pA;rw[zM (i:=49) (j:=48) _ x.x49 v ζ,uR]
theorem Mz (A:Act) (x:Xs) (v:Value):(pA A x).put (some 49) v=pA A {x with x49:=v}:=by
 unfold pA;rw[uR]
theorem Cf (A:Act) (x:Xs) (h:50<=A.tmps.size):(pA A x).eval (.tmp 42)=x.x42:=by
 unfold pA;simp[Act.put,Act.eval,Array.getElem?_setIfInBounds,(by omega:42<A.tmps.size)]
structure Yw (wB:World) (d0 d3 d5 d6 d7:Bool) (x:Xs) (w:World) (T:Nat->Tg):Prop where
 more:qa wB w
 fresh: ∀b,T b≠ .no->wB.heap.size<=b/\b<w.heap.size
 bk:d0=true-> ∃B b,x.x42= .pointer (some ⟨B,0,none⟩)/\x.x43= .agg #[.pointer (some ⟨B,0,none⟩)]/\T B= .book/\T b= .book/\ju w B b []
 rt:d3=true-> ∃M,x.x45= .map (some M)/\T M= .ret/\jh w M kO Value.bool []
 tb:d5=true-> ∃t a b c,x.x47= .pointer (some ⟨t,0,none⟩)/\T t= .table/\T a= .table/\T b= .table/\T c= .table/\jo w t a b c ⟨[],[],[]⟩
 ls:d6=true-> ∃M,x.x48= .map (some M)/\T M= .lns/\jh w M (Value.int .i64) gm []
 ss:d7=true-> ∃M,x.x49= .map (some M)/\T M= .sts/\jh w M kO gm []
section
variable {wB w w':World} {d0 d3 d5 d6 d7:Bool} {x:Xs} {T:Nat->Tg}
theorem Yw.no (h:Yw wB d0 d3 d5 d6 d7 x w T): ∀b,w.heap.size<=b->T b= .no:=λb d=>by
 cases e:T b<;>first | rfl | (exfalso;have:=(h.fresh b (by rw[e];simp)).2;omega)
theorem Yw.grow (h:Yw wB d0 d3 d5 d6 d7 x w T) (m:qa w w') (t:Tg):Yw wB d0 d3 d5 d6 d7 x w' (jU T t w w'):=by
 have O:=h.no;have k: ∀{b:Nat} {u:Tg},u≠ .no->T b=u->jU T t w w' b=u:=λU I=>(qZ O U _).2 (Or.inl I)
 refine⟨h.more.trans m,λb I=> ?_,λe=> ?_,λe=> ?_,λe=> ?_,λe=> ?_,λe=> ?_⟩
 ·unfold jU at I;split at I
  ·rename_i q;exact⟨Nat.le_trans h.more.size q.1,q.2⟩
  ·have:=h.fresh b I;exact⟨this.1,Nat.lt_of_lt_of_le this.2 m.size⟩
 ·obtain⟨B,b,d,G,H,J,N⟩:=h.bk e;exact⟨B,b,d,G,k η H,k η J,N.more m⟩
 ·obtain⟨M,d,G,H⟩:=h.rt e;exact⟨M,d,k η G,H.more m⟩
 ·obtain⟨t,a,b,c,d,G,H,J,N,Y⟩:=h.tb e;exact⟨t,a,b,c,d,k η G,k η H,k η J,k η N,Y.more m⟩
 ·obtain⟨M,d,G,H⟩:=h.ls e;exact⟨M,d,k η G,H.more m⟩
 ·obtain⟨M,d,G,H⟩:=h.ss e;exact⟨M,d,k η G,H.more m⟩
theorem yg (H: ∀b,w.heap.size<=b->T b= .no) {t:Tg} (I:t≠ .no) {b:Nat} (d:w.heap.size<=b) (G:b<w'.heap.size):jU T t w w' b=t:=(qZ H I b).2 (Or.inr ⟨rfl,d,G⟩)
end
theorem vA {o:Oper} {y:Nat->Option Bool} {p q:Prop} (h:Region.wanted o y=true) (d:p):if Region.wanted o y then p else q:=by
 rw[if_pos h];exact d
def wy:Nat->Bool->Bool->Bool->Bool->Bool->Tr
 | 0,_,_,_,_,_=> .op 8 false (.op 9 true (.op 10 false (.op 11 false .done)))
 | n+1,d0,d3,d5,d6,d7=> .br ((if d0 then [] else [0])++(if d3 then [] else [3])++(if d0&& !d5 then [5] else [])++(if d6 then [] else [6])++(if d7 then [] else [7]))
  (λk=>if k=0 then .op 1 false (wy n true d3 d5 d6 d7) else if k=3 then wy n d0 true d5 d6 d7 else if k=5 then wy n d0 d3 true d6 d7 else if k=6 then wy n d0 d3 d5 true d7 else wy n d0 d3 d5 d6 true)
def JX (d0 d3 d5 d6 d7:Bool):Nat:=(if d0 then 0 else 1)+(if d3 then 0 else 1)+(if d5 then 0 else 1)+(if d6 then 0 else 1)+(if d7 then 0 else 1)
section
variable {l:List Oper} {T0:Nat} {Q:Act->World->Prop} {A:Act} {wB:World}
theorem IP (aq:50<=A.tmps.size)
  (ae: ∃ty ps af,l[0]? =some {dst:=some 42,op:= .call {callee:= .value (.func 43),args:= #[],argTypes:= #[]},type:=ty,pos:=ps,after:=af,guard:=none})
  (ag: ∃ty ps af,l[1]? =some {dst:=some 43,op:= .build 86 #[(0,.tmp 42)],type:=ty,pos:=ps,after:=af,guard:=none})
  (ah: ∃ty ps af,l[3]? =some {dst:=some 45,op:= .makeMap 87 none,type:=ty,pos:=ps,after:=af,guard:=none})
  (ai: ∃ty ps af,l[5]? =some {dst:=some 47,op:= .call {callee:= .value (.func 44),args:= #[],argTypes:= #[]},type:=ty,pos:=ps,after:=af,guard:=none})
  (aj: ∃ty ps af,l[6]? =some {dst:=some 48,op:= .makeMap 90 none,type:=ty,pos:=ps,after:=af,guard:=none})
  (ak: ∃ty ps af,l[7]? =some {dst:=some 49,op:= .makeMap 91 none,type:=ty,pos:=ps,after:=af,guard:=none})
  (ap: ∀x w T,Yw wB true true true true true x w T->zh prog l.toArray T0 (λw'=> ∃y:qp wB,w'=y.w') Q (.op 8 false (.op 9 true (.op 10 false (.op 11 false .done)))) (pA A x) w):
  ∀(n:Nat) (O H I J N:Bool) (x:Xs) (w:World) (T:Nat->Tg),n=JX O H I J N->Yw wB O H I J N x w T->zh prog l.toArray T0 (λw'=> ∃y:qp wB,w'=y.w') Q (wy n O H I J N) (pA A x) w:=by
 obtain⟨aH,aB,au,ae⟩:=ae;obtain⟨aI,aC,av,ag⟩:=ag;obtain⟨aJ,aD,aw,ah⟩:=ah;obtain⟨aK,aE,ax,ai⟩:=ai;obtain⟨aL,aF,ay,aj⟩:=aj;obtain⟨aM,aG,az,ak⟩:=ak;intro n
 induction n with
 | zero=>
  intro O H I J N x w T aa U;have e:O=true/\H=true/\I=true/\J=true/\N=true:=by
   cases O<;>cases H<;>cases I<;>cases J<;>cases N<;>simp[JX] at aa ⊢
  obtain⟨rfl,rfl,rfl,rfl,rfl⟩:=e;exact ap x w T U
 | succ n ih=>
  intro O H I J N x w T aa U;have Y:=U.no;unfold wy;unfold zh;intro k G;simp only[List.mem_append] at G;rcases G with (((G | G) | G) | G) | G
  ·cases O with
   | true=>simp at G
   | false=>
    simp at G;subst G;simp only[List.getElem?_toArray,ae,Option.getD_some,if_true];refine vA rfl ?_;refine zk (D:=λw'=> ∃y:qp wB,w'=y.w') (λ_ h=>yE h) (PM ?_);refine(OC w).mono ?_;rintro e w' ⟨B,b,rfl,al,am,ab,ac⟩;have d:=U.grow ac .book;refine⟨_,rfl,qj (U.more.trans ac), ?_⟩;rw[MH];show zh _ _ _ _ _ (.op 1 false (wy n true H I J N)) _ _;refine qE ag rfl (qj (U.more.trans ac)) λK ar=> ?_
    refine⟨θ #[γ B],λw2 aA=> ?_, ?_⟩
    ·unfold Oper.quietAt execOp;simp only[List.map_toArray,List.map_cons,List.map_nil];have an:=Cf A {x with x42:= γ B} aq;simp only at an;rw[an];go_simp
    ·refine ar _ ?_;rw[MG];exact ih true H I J N _ w' _ (by cases H<;>cases I<;>cases J<;>cases N<;>simp[JX] at aa ⊢ <;>omega)
      ⟨d.more,d.fresh,λ_=>⟨B,b,rfl,rfl,yg Y η al (ql ab.blk),yg Y η am ab.map.lt,ab⟩,d.rt,d.tb,d.ls,d.ss⟩
  ·cases H with
   | true=>simp at G
   | false=>
    simp at G;subst G;simp only[List.getElem?_toArray,ah,Option.getD_some];refine vA rfl ?_;have m:=qa.alloc w (.map #[] 0);have d:=U.grow m .ret;refine zk (D:=λw'=> ∃y:qp wB,w'=y.w') (λ_ h=>yE h) (Xp ⟨qj d.more, ?_⟩);rw[MF];exact ih O true I J N _ _ _ (by cases O<;>cases I<;>cases J<;>cases N<;>simp[JX] at aa ⊢ <;>omega)
     ⟨d.more,d.fresh,d.bk,λ_=>⟨w.heap.size,rfl,yg Y η (Nat.le_refl _) η,jh.made w _ _⟩,d.tb,d.ls,d.ss⟩
  ·cases O<;>cases I<;>simp at G
   subst G;simp only[List.getElem?_toArray,ai,Option.getD_some];refine vA rfl ?_;refine zk (D:=λw'=> ∃y:qp wB,w'=y.w') (λ_ h=>yE h) (UX ?_);refine(Nq w).mono ?_;rintro e w' ⟨t,a,b,c,rfl,al,am,ab,ac,ad,ao⟩;have d:=U.grow ao .table;refine⟨_,rfl,qj (U.more.trans ao), ?_⟩;rw[ME];exact ih true H true J N _ w' _ (by cases H<;>cases J<;>cases N<;>simp[JX] at aa ⊢ <;>omega)
    ⟨d.more,d.fresh,d.bk,d.rt,λ_=>⟨t,a,b,c,rfl,yg Y η al (ql ad.blk),yg Y η am ad.mo.lt,yg Y η ab ad.ms.lt,yg Y η ac ad.mu.lt,ad⟩,d.ls,d.ss⟩
  ·cases J with
   | true=>simp at G
   | false=>
    simp at G;subst G;simp only[List.getElem?_toArray,aj,Option.getD_some];refine vA rfl ?_;have m:=qa.alloc w (.map #[] 0);have d:=U.grow m .lns;refine zk (D:=λw'=> ∃y:qp wB,w'=y.w') (λ_ h=>yE h) (Xp ⟨qj d.more, ?_⟩);rw[MC];exact ih O H I true N _ _ _ (by cases O<;>cases H<;>cases I<;>cases N<;>simp[JX] at aa ⊢ <;>omega)
     ⟨d.more,d.fresh,d.bk,d.rt,d.tb,λ_=>⟨w.heap.size,rfl,yg Y η (Nat.le_refl _) η,jh.made w _ _⟩,d.ss⟩
  ·cases N with
   | true=>simp at G
   | false=>
    simp at G;subst G;simp only[List.getElem?_toArray,ak,Option.getD_some];refine vA rfl ?_;have m:=qa.alloc w (.map #[] 0);have d:=U.grow m .sts;refine zk (D:=λw'=> ∃y:qp wB,w'=y.w') (λ_ h=>yE h) (Xp ⟨qj d.more, ?_⟩);rw[Mz];exact ih O H I J true _ _ _ (by cases O<;>cases H<;>cases I<;>cases J<;>simp[JX] at aa ⊢ <;>omega)
     ⟨d.more,d.fresh,d.bk,d.rt,d.tb,d.ls,λ_=>⟨w.heap.size,rfl,yg Y η (Nat.le_refl _) η,jh.made w _ _⟩⟩
theorem Fr (A:Act) (h:50<=A.tmps.size): ∃x,pA A x=A:=by
 refine⟨⟨A.tmps.getD 42 undef,A.tmps.getD 43 undef,A.tmps.getD 45 undef,A.tmps.getD 47 undef,A.tmps.getD 48 undef,A.tmps.getD 49 undef⟩, ?_⟩;unfold pA;simp only;rw[kq A 42 τ,kq A 43 τ,kq A 45 τ,kq A 47 τ,kq A 48 τ,kq A 49 τ]
theorem PF (d:50<=A.tmps.size)
  (H: ∃ty ps af,l[0]? =some {dst:=some 42,op:= .call {callee:= .value (.func 43),args:= #[],argTypes:= #[]},type:=ty,pos:=ps,after:=af,guard:=none})
  (I: ∃ty ps af,l[1]? =some {dst:=some 43,op:= .build 86 #[(0,.tmp 42)],type:=ty,pos:=ps,after:=af,guard:=none})
  (J: ∃ty ps af,l[3]? =some {dst:=some 45,op:= .makeMap 87 none,type:=ty,pos:=ps,after:=af,guard:=none})
  (N: ∃ty ps af,l[5]? =some {dst:=some 47,op:= .call {callee:= .value (.func 44),args:= #[],argTypes:= #[]},type:=ty,pos:=ps,after:=af,guard:=none})
  (O: ∃ty ps af,l[6]? =some {dst:=some 48,op:= .makeMap 90 none,type:=ty,pos:=ps,after:=af,guard:=none})
  (U: ∃ty ps af,l[7]? =some {dst:=some 49,op:= .makeMap 91 none,type:=ty,pos:=ps,after:=af,guard:=none})
  (w:World) (m:qa wB w)
  (G: ∀x w T,Yw wB true true true true true x w T->zh prog l.toArray T0 (λw'=> ∃y:qp wB,w'=y.w') Q (.op 8 false (.op 9 true (.op 10 false (.op 11 false .done)))) (pA A x) w):
  zh prog l.toArray T0 (λw'=> ∃y:qp wB,w'=y.w') Q (wy 5 false false false false false) A w:=by
 obtain⟨x,e⟩:=Fr A d;have:=IP (Q:=Q) (T0:=T0) d H I J N O U G 5 false false false false false x w (λ_=> .no) rfl ⟨m,λb Y=>absurd rfl Y,λe=>(by cases e),λe=>(by cases e),λe=>(by cases e),λe=>(by cases e),λe=>(by cases e)⟩;rw[e] at this;exact this
end
theorem BD {w I w8 w9:World} {c:CfR} {x:Xs} {T:Nat->Tg} {RQ AQ R:Nat} (ae:qa w I) (G:Yw I true true true true true x w8 T) (aF:w.heap.size<=RQ/\RQ<I.heap.size) (aG:w.heap.size<=AQ/\AQ<I.heap.size)
  (d:zT I RQ AQ c.room.toNat 0 [] 0 0 0 0 (List.replicate c.room.toNat [δ none 0 0])) (N:qa w8 w9) (aE:w8.heap.size<=R/\R<w9.heap.size)
  (ar: ∀B O aa U Y,x.x43= θ #[γ B]->x.x45= .map (some O)->x.x47= γ aa->x.x48= .map (some U)->x.x49= .map (some Y)->w9.heap[R]? =some (.cells #[γ B,ι c.room,ι c.hold,ι c.wait,ι c.space,ι c.retry,ι c.most,false,.map (some O),ι 0,γ RQ,γ aa,.map (some U),.map (some Y),(),(),ι 0,ι 0,ι 0,ι 0,ι 0] 95 (0,0))):
  ∃k,k.R=R/\qF w w9 k (wu c) []:=by
 obtain⟨B,b,aD,ag,aw,tb,al⟩:=G.bk rfl;obtain⟨O,ah,ax,am⟩:=G.rt rfl;obtain⟨aa,aA,aB,aC,ai,t1,t2,t3,t4,ap⟩:=G.tb rfl;obtain⟨U,aj,ay,an⟩:=G.ls rfl;obtain⟨Y,ak,az,ao⟩:=G.ss rfl;have au:=ar B O aa U Y ag ah ai aj ak;have aH:=G.more.size;have aq: ∀{q:Nat} {u:Tg},u≠ .no->T q=u->I.heap.size<=q/\q<w8.heap.size:=λad d=>G.fresh _ (by rw[d];exact ad)
 obtain⟨ab,J⟩: ∃ab:Nat->Tg,ab=λq=>if q=RQ∨q=AQ then Tg.queue else if q=R then Tg.room else T q:=⟨_,rfl⟩
 have H: ∀{q:Nat} {u:Tg},u≠ .no->T q=u->ab q=u:=λad d=>by
  have:=aq ad d;rw[J];simp only;rw[if_neg τ,if_neg τ];exact d
 have af:qa I w9:=G.more.trans N;refine⟨⟨R,O,RQ,AQ,aa,aA,aB,aC,B,b,U,Y,[],[]⟩,rfl,ab,δ none 0 0,δ none 0 0,⟨λu=> ?_,λq d=> ?_,λq d=>(by cases d),ae.trans af⟩⟩
 ·cases u with
  | no=>
   intro q d;rw[J];simp only;rw[if_neg τ,if_neg τ];cases e:T q<;>first | rfl | (exfalso;have:=(G.fresh q (by rw[e];simp)).2;omega)
  | junk=>trivial
  | data=>trivial
  | room=>
   refine⟨?_,au⟩;rw[J];simp only;rw[if_neg τ];simp
  | ret=>exact⟨H η ax,am.more N⟩
  | queue=>
   have av:=d.more af;refine⟨by rw[J];simp,by rw[J];simp,0,[],0,0,0,0,_,av,trivial⟩
  | table=>exact⟨H η t1,H η t2,H η t3,H η t4,ap.more N⟩
  | book=>exact⟨H η aw,H η tb,al.more N⟩
  | lns=>exact⟨H η ay,an.more N⟩
  | sts=>exact⟨H η az,ao.more N⟩
  | pks=>exact⟨qV.nil _ _ _ _ _ _,λg ac=>by cases ac⟩
  | reqs=>exact⟨qV.nil _ _ _ _ _ _,λg ac=>by cases ac⟩
  | lane y=>exact⟨λp l h=>(by cases h),rfl⟩
  | str o=>exact⟨λp t h=>(by cases h),rfl⟩
 ·rw[J] at d;simp only at d;have:=ae.size;split at d
  ·rename_i e;rcases e with e | e<;>omega
  ·split at d
   ·omega
   ·have:=(G.fresh q d).1;omega
theorem Ou (c:CfR) (av:zR c=true) (w:World):
  Calls prog 9 #[θ #[ι c.room,ι c.hold,ι c.wait,ι c.space,ι c.retry,ι c.most]] w λe w'=> ∃k,e= .returned (.tuple #[γ k.R,ι 0])/\qF w w' k (wu c) []/\qa w w':=by
 obtain⟨c1,c2,c3,c4⟩:=vn av;obtain⟨W1,N⟩:=ν (w.alloc (.cells #[ι c.room,ι c.hold,ι c.wait,ι c.space,ι c.retry,ι c.most] 25));have U:Hid (qa w W1):=κ (by rw[<-N];exact qa.alloc _ _);have d:Hid (W1.heap[w.heap.size]? =some (.cells #[ι c.room,ι c.hold,ι c.wait,ι c.space,ι c.retry,ι c.most] 25 (0,0))):=κ (by rw[<-N];exact qk w _);have aL:=κ (ZT c.room c.room.toNat τ τ τ W1);have aJ:=κ (λw'=>YV c.hold c.wait w' c2);have af:=κ (λw'=>Qk c.space c.retry w');rw[decide_eq_true c3] at af;have aX:=β0 d.o;clear c1 c2 c3 av
 go_enter func9,ntmps9
 go_upto_region 1 with fail
 (try rw[N])
 clear N
 go_upto_region 9 with (first | (go_at_call 40;(go_call aL.o as e w2 ⟨rfl,ar,n2⟩;have ae:=κ ar;have aN:=κ n2;have aY:=β1 (qc n2 d.o);have aZ:=β2 (qc n2 d.o);clear ar n2)) | (go_at_call 41;(go_call aJ.o _ as e bg ⟨rfl,_,ab,_⟩;have Y:=κ (aN.o.trans ab);have aO:=κ ab;have ba:=β3 (qc Y.o d.o);have bb:=β4 (qc Y.o d.o);clear ab)) | (go_at_call 42;(go_call af.o _ as e w4 ⟨rfl,ac⟩;have G:=κ (Y.o.trans ac);have ah:=κ (aO.o.trans ac);have bc:=β5 (qc G.o d.o);clear ac)))
 have aC: ∀y:qp w4,y.w'.cell? ⟨w.heap.size,0,none⟩=some (ι c.room):=λy=>qb (qc (G.o.trans y.h) d.o) 0 rfl
 have aD: ∀y:qp w4,y.w'.cell? ⟨w.heap.size,1,none⟩=some (ι c.hold):=λy=>qb (qc (G.o.trans y.h) d.o) 1 rfl
 have aE: ∀y:qp w4,y.w'.cell? ⟨w.heap.size,2,none⟩=some (ι c.wait):=λy=>qb (qc (G.o.trans y.h) d.o) 2 rfl
 have aF: ∀y:qp w4,y.w'.cell? ⟨w.heap.size,3,none⟩=some (ι c.space):=λy=>qb (qc (G.o.trans y.h) d.o) 3 rfl
 have aG: ∀y:qp w4,y.w'.cell? ⟨w.heap.size,4,none⟩=some (ι c.retry):=λy=>qb (qc (G.o.trans y.h) d.o) 4 rfl
 have aH: ∀y:qp w4,y.w'.cell? ⟨w.heap.size,5,none⟩=some (ι c.most):=λy=>qb (qc (G.o.trans y.h) d.o) 5 rfl
 refine zC w4 12 (.op 2 false (.op 4 false (wy 5 false false false false false))) ξ ξ ?_
 iterate 2 (refine qE rfl rfl (qj ρ) ?_;intro K I;go_big_quiet_op;go_big_quiet_on)
 clear aC aD aE aF aG aH;refine PF η ⟨_,_,_,rfl⟩ ⟨_,_,_,rfl⟩ ⟨_,_,_,rfl⟩ ⟨_,_,_,rfl⟩ ⟨_,_,_,rfl⟩ ⟨_,_,_,rfl⟩ _ (qa.drewN w4 1) ?_;intro x w8 T H;obtain⟨B,b,ak,am,_⟩:=H.bk rfl;obtain⟨ag,an,_⟩:=H.rt rfl;obtain⟨aB,bd,be,bf,ao,_⟩:=H.tb rfl;obtain⟨ai,ap,_⟩:=H.ls rfl;obtain⟨aj,aq,_⟩:=H.ss rfl;have aI:=κ H;have J:=κ H.more;clear H;obtain⟨x42,x43,x45,x47,x48,x49⟩:=x;simp only at ak am an ao ap aq;subst ak am an ao ap aq;unfold pA;simp only[Act.put];go_simp;refine qE rfl rfl (qj J.o) ?_;intro K I
 go_big_quiet_op
 go_big_quiet_on
 (refine qP rfl rfl ?_;intro K I;unfold jl;go_simp)
 refine⟨qj (J.o.al _),I _ _ ?_⟩;clear I K;obtain⟨w9,O⟩:=ν (w8.alloc (.cells #[γ B,ι c.room,ι c.hold,ι c.wait,ι c.space,ι c.retry,ι c.most,false,.map (some ag),ι 0,γ (W1.heap.size+1),γ aB,.map (some ai),.map (some aj),(),(),ι 0,ι 0,ι 0,ι 0,ι 0] 95));have aa:Hid (qa w8 w9):=κ (by rw[<-O];exact qa.alloc _ _);have ad:Hid (w9.heap[w8.heap.size]? =some (.cells #[γ B,ι c.room,ι c.hold,ι c.wait,ι c.space,ι c.retry,ι c.most,false,.map (some ag),ι 0,γ (W1.heap.size+1),γ aB,.map (some ai),.map (some aj),(),(),ι 0,ι 0,ι 0,ι 0,ι 0] 95 (0,0))):=κ (by rw[<-O];exact qk w8 _)
 (try rw[O])
 clear O
 iterate 2 (refine qE rfl rfl (qj (J.o.trans aa.o)) ?_;intro K I;go_big_quiet_op;go_big_quiet_on)
 refine ze ?_;have aQ:=ql ae.o.ring;have aR:=ah.o.size;have aS:=U.o.size
 obtain⟨aT,aP,au⟩:=BD (c:=c) (RQ:=W1.heap.size+1) (AQ:=W1.heap.size) (R:=w8.heap.size) (U.o.trans G.o) aI.o ⟨τ,τ⟩ ⟨τ,τ⟩ (ae.o.more ah.o) aa.o ⟨Nat.le_refl _,ql ad.o⟩ (λaU aW t' aV S' aw ax ay az aA=>by
  simp at aw ax ay az aA;subst aw ax ay az aA
  exact ad.o)
 have aM:=κ au;have aK:=κ (U.o.trans (G.o.trans (J.o.trans aa.o)));clear au aQ aR aS;go_wp2
 go_ret2
 exact⟨aT,by rw[aP];rfl,aM.o,aK.o⟩
theorem Hc (c:CfR) (O:zR c=false) (w:World):
  Calls prog 9 #[θ #[ι c.room,ι c.hold,ι c.wait,ι c.space,ι c.retry,ι c.most]] w λe w'=>e= .returned (.tuple #[π none,ι 1])/\qa w w':=by
 obtain⟨W1,G⟩:=ν (w.alloc (.cells #[ι c.room,ι c.hold,ι c.wait,ι c.space,ι c.retry,ι c.most] 25));have ac:Hid (qa w W1):=κ (by rw[<-G];exact qa.alloc _ _);have d:Hid (W1.heap[w.heap.size]? =some (.cells #[ι c.room,ι c.hold,ι c.wait,ι c.space,ι c.retry,ι c.most] 25 (0,0))):=κ (by rw[<-G];exact qk w _);have ak:=β0 d.o;by_cases hr:c.room<1∨8<c.room
 ·have J:=κ (Cr c.room hr W1);clear hr O
  go_enter func9,ntmps9
  go_upto_region 1 with fail
  (try rw[G])
  clear G
  go_wp2_with ((go_at_call 40;(go_call J.o as e w2 ⟨rfl,n2⟩;have H:=κ n2;clear n2)))
  go_ret2
  exact⟨rfl,ac.o.trans H.o⟩
 ·have J:=κ (ZT c.room c.room.toNat τ τ τ W1);by_cases hj:wA c.hold c.wait
  ·have ab:=κ (λw'=>YV c.hold c.wait w' hj);have aa:=κ (λw'=>Qk c.space c.retry w');by_cases ha:1<=c.space/\c.space<=c.retry/\c.retry<=1000
   ·rw[decide_eq_true ha] at aa;have ae:c.most<1∨10<c.most:=by
     simp[zR,hj,ha] at O;omega
    rcases ae with ae | ae
    all_goals
     clear hr O hj ha
     go_enter func9,ntmps9
     go_upto_region 1 with fail
     (try rw[G])
     clear G
     go_wp2_with (first | (go_at_call 40;(go_call J.o as e w2 ⟨rfl,N,n2⟩;have H:=κ n2;have af:=β1 (qc n2 d.o);have ag:=β2 (qc n2 d.o);clear N n2)) | (go_at_call 41;(go_call ab.o _ as e ah ⟨rfl,_,U,_⟩;have I:=κ (H.o.trans U);have ai:=β3 (qc I.o d.o);have aj:=β4 (qc I.o d.o);clear U)) | (go_at_call 42;(go_call aa.o _ as e w4 ⟨rfl,Y⟩;have ad:=κ (I.o.trans Y);have al:=β5 (qc ad.o d.o);clear Y)))
     go_ret2
     exact⟨rfl,ac.o.trans ad.o⟩
   ·rw[decide_eq_false ha] at aa;clear hr O hj ha
    go_enter func9,ntmps9
    go_upto_region 1 with fail
    (try rw[G])
    clear G
    go_wp2_with (first | (go_at_call 40;(go_call J.o as e w2 ⟨rfl,N,n2⟩;have H:=κ n2;have af:=β1 (qc n2 d.o);have ag:=β2 (qc n2 d.o);clear N n2)) | (go_at_call 41;(go_call ab.o _ as e ah ⟨rfl,_,U,_⟩;have I:=κ (H.o.trans U);have ai:=β3 (qc I.o d.o);have aj:=β4 (qc I.o d.o);clear U)) | (go_at_call 42;(go_call aa.o _ as e w4 ⟨rfl,Y⟩;have ad:=κ (I.o.trans Y);clear Y)))
    go_ret2
    exact⟨rfl,ac.o.trans ad.o⟩
  ·have ab:=κ (λw'=>LS c.hold c.wait w' hj);clear hr O hj
   go_enter func9,ntmps9
   go_upto_region 1 with fail
   (try rw[G])
   clear G
   go_wp2_with (first | (go_at_call 40;(go_call J.o as e w2 ⟨rfl,N,n2⟩;have H:=κ n2;have af:=β1 (qc n2 d.o);have ag:=β2 (qc n2 d.o);clear N n2)) | (go_at_call 41;(go_call ab.o _ as e ah ⟨rfl,rfl⟩)))
   go_ret2
   exact⟨rfl,ac.o.trans H.o⟩
def RmR (w0 w:World) (R:Nat) (s:RmS) (F:List Nat):Prop:= ∃k:RmK,k.R=R/\qF w0 w k s F
section
variable {w0 w w':World} {R:Nat} {s s':RmS} {F F' Fn:List Nat} {n:Nat}
theorem RmR.on (h:RmR w0 w R s F) (m:qa w w'):RmR w0 w' R s F:=h.elim λk h=>⟨k,h.1,h.2.on m⟩
theorem RmR.sub (h:RmR w0 w R s F) (d: ∀b∈F',b∈F):RmR w0 w R s F':=h.elim λk h=>⟨k,h.1,h.2.sub d⟩
theorem RmR.adds (h:RmR w0 w R s F) (m:qa w w') (d: ∀b∈Fn,w.heap.size<=b/\b<w'.heap.size):RmR w0 w' R s (Fn++F):=h.elim λk h=>⟨k,h.1,h.2.adds m d⟩
theorem RmR.more (h:RmR w0 w R s F):qa w0 w:=h.elim λ_ h=>h.2.more
theorem RmR.stay (h:RmR w0 w R s F) (m:qa w w'):qt F w w':=h.elim λ_ h=>h.2.stay m
theorem RmR.bk (h:RmR w0 w R s F): ∃B b,w.cell? ⟨R,0,none⟩=some (π (some ⟨B,0,none⟩))/\ju w B b s.book:=by
 obtain⟨k,rfl,T,vp,d,h⟩:=h;exact⟨k.B,k.b,qb h.blk 0 rfl,h.bok⟩
theorem RmR.tkeys (h:RmR w0 w R s F):(s.tab.u.map Prod.fst).Nodup:=by
 obtain⟨k,rfl,T,vp,d,h⟩:=h;exact h.tab.mu.keys
theorem RmR.bkeys (h:RmR w0 w R s F):(s.book.map Prod.fst).Nodup:=by
 obtain⟨k,rfl,T,vp,d,h⟩:=h;exact h.bok.map.keys
theorem Ab (c:CfR) (d:zR c=true) (w:World):
  Calls prog 9 #[θ #[ι c.room,ι c.hold,ι c.wait,ι c.space,ι c.retry,ι c.most]] w λe w'=> ∃R,e= .returned (.tuple #[γ R,ι 0])/\RmR w w' R (wu c) []/\qa w w':=
 (Ou c d w).mono λ_ _ h=>h.elim λk h=>⟨k.R,h.1,⟨k,rfl,h.2.1⟩,h.2.2⟩
theorem NR (h:RmR w0 w R s F) (G:zR s.cfg=true) (p s0 s1 s2:Int) {a:Int} (H:s.publish p s0 s1 s2=(s',a)):
  Calls prog 45 #[γ R,ι p,θ #[ω s0,ω s1,ω s2]] w λe w'=>e= .returned (ι a)/\RmR w0 w' R s' F/\qt F w w':=by
 obtain⟨k,rfl,h⟩:=h;refine(Kh h G p s0 s1 s2).mono ?_;rintro e w' ⟨k',I,rfl,d,t⟩;rw[H] at d ⊢;exact⟨rfl,⟨k',I,d⟩,t⟩
theorem MR (h:RmR w0 w R s F) (H:zR s.cfg=true) (x d sq st:Int) (O:U16 sq) (N:U32 d) {a:Int} (I:s.join x d sq st=(s',a)):
  Calls prog 35 #[γ R,ι x,ω d,φ sq,ω st] w λe w'=>e= .returned (ι a)/\RmR w0 w' R s' F/\qt F w w':=by
 obtain⟨k,rfl,h⟩:=h;refine(Ir h H x d sq st O N).mono ?_;rintro e w' ⟨k',J,rfl,G,t⟩;rw[I] at G ⊢;exact⟨rfl,⟨k',J,G⟩,t⟩
theorem Mv (h:RmR w0 w R s F) (H:qX n s) (I:n<=1000) (x p m:Int) {a:Int} (G:s.subscribe x p m=(s',a)):
  Calls prog 46 #[γ R,ι x,ι p,ι m] w λe w'=>e= .returned (ι a)/\RmR w0 w' R s' F/\qt F w w':=by
 obtain⟨k,rfl,h⟩:=h;refine(XP h (H.subs I) x p m).mono ?_;rintro e w' ⟨rfl,d,t⟩;rw[G] at d ⊢;exact⟨rfl,⟨k,rfl,d⟩,t⟩
theorem Ms (h:RmR w0 w R s F) (H:qX n s) (I:n<=1000) {a:Int} (G:s.tick=(s',a)):
  Calls prog 34 #[γ R] w λe w'=>e= .returned (ι a)/\RmR w0 w' R s' F/\qt F w w':=by
 obtain⟨k,rfl,h⟩:=h;refine(Io h H I).mono ?_;rintro e w' ⟨rfl,d,t⟩;rw[G] at d ⊢;exact⟨rfl,⟨k,rfl,d⟩,t⟩
theorem Ol (h:RmR w0 w R s F) (b:List Int) (v:Value) (N:SlI .u8 w v b) (G:Byt b) (J:b.length<=1000000) (I:0<=s.cnt.lost/\s.cnt.lost<=1000000000) {a:Int} (H:s.arrive b=(s',a)):
  Calls prog 33 #[γ R,v] w λe w'=>e= .returned (ι a)/\RmR w0 w' R s' F/\qt F w w':=by
 obtain⟨k,rfl,h⟩:=h;refine(Gx h b v N G J I).mono ?_;rintro e w' ⟨rfl,d,t⟩;rw[H] at d ⊢;exact⟨rfl,⟨k,rfl,d⟩,t⟩
theorem Oe {n:Nat} (h:n<=1000):n<=10000:=Nat.le_trans h ζ
theorem Hz (h:RmR w0 w R s F) (H:qX n s) (I:n<=10000) (w1 w2:Int) (acc:Bool) {a:Bool} (G:s.pick (w1,w2) acc=(s',a)):
  Calls prog 31 #[γ R,θ #[ι w1,ι w2],acc] w λe w'=>e= .returned (μ a)/\RmR w0 w' R s' F/\qt F w w':=by
 obtain⟨k,rfl,h⟩:=h;refine(Iq h H I w1 w2 acc).mono ?_;rintro e w' ⟨rfl,d,t⟩;rw[G] at d ⊢;exact⟨rfl,⟨k,rfl,d⟩,t⟩
theorem NY (h:RmR w0 w R s F) (G:qX n s) (H:n<=10000) (w1 w2:Int) {a:Bool} (d:s.may (w1,w2)=a):
  Calls prog 27 #[γ R,θ #[ι w1,ι w2]] w λe w'=>e= .returned (μ a)/\qa w w':=by
 obtain⟨k,rfl,T,vp,I,h⟩:=h;rw[<-d];exact Mg h (G.rd H).clock w1 w2
theorem IB (h:RmR w0 w R s F) {a b:Int} (d:(s.queue.length:Int)=a) (G:s.held=b):
  Calls prog 23 #[γ R] w λe w'=>e= .returned (.tuple #[ι a,ι b])/\qa w w':=by
 obtain⟨k,rfl,T,vp,H,h⟩:=h;rw[<-d,<-G];exact LD h
theorem MQ (h:RmR w0 w R s F) (x:Int) {l:LnS} (d:s.ln x=l) {t:Bool} (G:(qh s.lanes x).isSome=t):Calls prog 24 #[γ R,ι x] w λe w'=>
  e= .returned (.tuple #[θ #[ι l.cur,ι l.tgt],θ #[ι l.A.length,ι l.B.length,ι l.C.length],l.gone,t])/\qa w w':=by
 obtain⟨k,rfl,T,vp,H,h⟩:=h;rw[<-d,<-G];exact Nv h x
theorem NG (h:RmR w0 w R s F) (x:Int) (d:(s.ln x).W.length<=1000000):Calls prog 14 #[γ R,ι x] w λe w'=>(∃v,e= .returned v/\qV 2 (ROn w.heap.size) (λb=>b<w.heap.size) w' w.heap.size 56 v (s.ln x).W)/\qa w w':=by
 obtain⟨k,rfl,T,vp,G,h⟩:=h;exact Eh h x d
end
theorem qt.cell {F:List Nat} {w w':World} (h:qt F w w') {b:Nat} (d:b∈F) (i:Nat):w'.cell? ⟨b,i,none⟩=w.cell? ⟨b,i,none⟩:=by
 unfold World.cell?;simp only;rw[h.2 b d]
theorem SlI.addr {w:World} {k:IntKind} {G:Option Addr} {n cap:Nat} {l:List Int} (h:SlI k w (δ G n cap) l) (J:0<l.length): ∃b d,G=some ⟨b,d,none⟩/\b<w.heap.size/\n=l.length:=by
 obtain⟨O,N,e,_,H,_⟩:=h;injection e with e1 e2 e3
 subst e1 e2 e3;obtain⟨b,d,rfl,I,_⟩:=H 0 J;exact⟨b,d,rfl,I,rfl⟩
section
variable {w0 w w':World} {R:Nat} {s s':RmS} {F F' Fn:List Nat} {n:Nat}
theorem Oj (h:RmR w0 w R s F) (U:qX n s) (aa:n<=1000) (a:A22) (G:Option Addr) (d:Nat) (ad:SlI .u8 w (δ G a.b.length d) a.b) (O:Byt a.b) (Y:a.b.length<=400) (ac:U16 a.seq) (ab:U32 a.own):
  Calls prog 12 #[γ R,θ #[ι a.act,ι a.sub,ι a.pub,ι a.layer,δ G a.b.length d,ι a.w.1,ι a.w.2,a.acc,ω a.own,ω a.stamp,φ a.seq,ω a.s0,ω a.s1,ω a.s2]] w λe w'=>
   e= .returned (.tuple #[ι (doR s a).2.1,μ (doR s a).2.2])/\RmR w0 w' R (doR s a).1 F/\qt F w w':=by
 obtain⟨k,rfl,h⟩:=h;exact(RDo h U aa a G d ad O Y ac ab).mono λe w' ⟨k',H,I,J,N⟩=>⟨I,⟨k',H,J⟩,N⟩
theorem My (h:RmR w0 w R s F) (H:qX n s) (J:n<=10000) (x:Int) {p:Nat} (I:(xL s.book x).length=p): ∃B,w.cell? ⟨R,0,none⟩=some (π (some ⟨B,0,none⟩))/\
  Calls prog 25 #[θ #[γ B],ι x] w λe w'=>(∃o cap,e= .returned (δ o p cap))/\qa w w':=by
 obtain⟨B,b,d,G⟩:=h.bk;refine⟨B,d,(Er G x (by have:=H.num.book;omega)).mono ?_⟩;rintro e w' ⟨⟨v,rfl,o,cap,rfl,_⟩,m⟩;rw[I];exact⟨⟨o,cap,rfl⟩,m⟩
end
theorem JB (s:RmS):s.workers.length<=20:=by
 have h:=WM s.there subIds;exact Nat.le_trans h ζ
theorem PS (a b c x y z:Int) (w:World):(binOp .neq 104 (θ #[ι a,ι b,ι c]) (θ #[ι x,ι y,ι z])).run prog w= .ok (μ (!decide ([a,b,c]=[x,y,z]))) w:=by
 obtain⟨i,hi⟩: ∃i,prog.info? 3=some i:=⟨_,rfl⟩;exact F7 (la:=[a,b,c]) (lb:=[x,y,z]) underlying104 hi ξ underlying3 isAgg3 rfl rfl w
theorem Qy {d w:World} {R:Nat} {s:RmS} {F:List Nat} (h:RmR d w R s F):Calls prog 26 #[γ R] w λe w'=> ∃v,e= .returned v/\qV 2 RO (λ_=>False) w' w.heap.size 37 v s.workers/\qa w w':=by
 obtain⟨k,rfl,T,vp,G,h⟩:=h;exact Yh h
theorem IL: ∀(w:World) (cs:List Value) (y:Og),RO w cs y-> ∀u∈cs,u.oneCell'=true:=by
 rintro w cs y h u d;obtain rfl:cs=[ι y.1,ι y.2]:=h;simp at d;rcases d with rfl | rfl<;>rfl
theorem Ph (L:List Og) (i k:Nat) (h:k<L.length):(wl L i).take (k+1)=(wl L i).take k++[L.getD ((i+k)%L.length) (0,0)]:=by
 rw[List.take_succ_eq_append_getElem (by rw[gT];exact h)]
 congr 2
 unfold wl;rw[List.getElem_map,List.getElem_range]
theorem XK {aU w:World} {R:Nat} {s:RmS} {F:List Nat} (h:RmR aU w R s F) (n:Nat) (be:n<=112) (v:Value) (M:List Og) (aj:SlP 2 RO w v M) (aZ:M.length<=20):
  Calls prog 29 #[γ R,ι (n:Int),v] w λe w'=>(∃v',e= .returned (.tuple #[v',ι ((M.length:Int)+(s.workers.length:Int))])/\qV 2 RO (λ_=>False) w' w.heap.size 37 v' (zc s.workers M n))/\qa w w':=by
 obtain⟨au,hi,ap,aq,ar⟩:=info_parts (P:=prog) (e:=37) (z:= θ #[ι 0,ι 0]) (size:=2) (bytes:=16) ξ;have ak:=κ (Qy h);have aM:=JB s;obtain⟨L,ah⟩:=ν (s.workers);rw[ah] at ak aM;rw[ah];have aC:=κ aj;obtain⟨bk,aV,rfl,_⟩:=id aj;clear h ah aj
 go_enter func29,ntmps29
 go_wp2_with ((go_at_call 26;(go_call ak.o as e w1 ⟨bm,rfl,ax,aw⟩;obtain⟨bj,cap,rfl,av⟩:=WC ax;have aE:=κ av;have ac:=κ aw;clear ax av aw)))
 go_loopw [9,15] (λu I wr=> ∃i:Nat,i<=n/\I= ι i/\(∃O N J,u= δ O N J)/\qV 2 RO (λ_=>False) wr w1.heap.size 37 u (zc L M i)/\qa w1 wr) (λ_ I _=>n-(intOf I).toNat)
 case atStart=>exact⟨0,τ,rfl,⟨_,_,_,rfl⟩,qV.nil _ _ _ _ _ _,qa.refl _⟩
 case round=>
  obtain⟨i,bc,rfl,⟨O,N,J,rfl⟩,ab,aa⟩:=hrel;have G:=κ ab;have d:=κ aa;clear ab aa;by_cases hlt:i<n
  ·have aK:(i:Int)<(n:Int):=by omega
   have bb:i<=111:=by omega
   have bf:(zc L M i).length<=4480:=by
    rw[yW];have aX:i* (M.length+L.length)<=112* (M.length+L.length):=Nat.mul_le_mul_right _ τ;omega
   have az:Hid (zc L M (i+1)=zc L M i++(M++wl L i)):=κ rfl;generalize zc L M i=B at *
   go_upto_block 7 with (at_builtin;(refine gk w _ rfl (.tmp 18) (.tmp 19) 98 rfl w1.heap.size 37 au (θ #[ι 0,ι 0]) 2 16 underlying98 hi ap aq ar rfl ζ YD IL _ B rfl G.o _ M rfl aC.o (ac.o.trans d.o) (λb ai=>Nat.le_trans ac.o.size (G.o.ge ai)) ζ τ d.o.size ?_;intro v5 w5 H Y aP;have am:Hid (qa w1 w5):=κ (d.o.grown Y d.o.size (λz aQ=>G.o.ge aQ));obtain⟨bi,bg,c5,rfl,ao,_⟩:=H.shape;rw[List.length_append] at ao;subst ao;have an:=κ H;clear H Y aP))
   go_loopw [9,23] (λu I wr=> ∃k:Nat,k<=L.length/\I= ι k/\(∃O N J,u= δ O N J)/\qV 2 RO (λ_=>False) wr w1.heap.size 37 u (B++(M++(wl L i).take k))/\qa w1 wr) (λ_ I _=>L.length-(intOf I).toNat)
   case atStart=>exact⟨0,τ,rfl,⟨_,_,_,rfl⟩,by rw[List.take_zero,List.append_nil];exact an.o,am.o⟩
   case round=>
    clear G d an am;obtain⟨k,bd,rfl,⟨O,N,J,rfl⟩,ab,aa⟩:=hrel;have G:=κ ab;have d:=κ aa;clear ab aa;by_cases hlt2:k<L.length
    ·have aL:(k:Int)<(L.length:Int):=by omega
     have aO:0<L.length:=by omega
     have aN:((i:Int)+(k:Int))%(L.length:Int)=(((i+k)%L.length:Nat):Int):=by rw[Int.natCast_emod];rfl
     have ag:=Nat.mod_lt (i+k) aO;have af:=κ (Ph L i k hlt2);obtain⟨U,aI⟩:=ν ((i+k)%L.length);rw[aI] at aN ag af;have aY:(U:Int)<(L.length:Int):=by omega
     obtain⟨b,rfl,aG,aH⟩:=aE.o.2 _ d.o U ag;have aJ:L.getD U (0,0)=L[U]:=by rw[List.getD_eq_getElem?_getD,List.getElem?_eq_getElem ag];rfl
     rw[aJ] at af;generalize L[U]=y at *;obtain⟨ad,ae⟩:=y;simp only at aG aH;have ba:(B++(M++(wl L i).take k)).length<=4520:=by
      rw[List.length_append,List.length_append,List.length_take,gT];omega
     have aD:Hid (B++(M++(wl L i).take (k+1))=(B++(M++(wl L i).take k))++[(ad,ae)]):=κ (by rw[af.o];simp[List.append_assoc]);generalize B++(M++(wl L i).take k)=C at *;have aB:=κ (G.o.on (qa.alloc wr (.cells #[ι ad,ι ae] 37)));have aA:Hid (∀b,(δ O N J).ownBlock=some b->w1.heap.size<=b):=κ (λb h=>G.o.ge h)
     go_wp2_with (at_builtin;(refine jj (R:=RO) (D:=λ_=>False) _ rfl (.tmp 26) (.tmp 36) 98 rfl w1.heap.size 37 au (θ #[ι 0,ι 0]) 2 16 underlying98 hi ap aq ar rfl ζ _ C rfl aB.o wr.heap.size [ι ad,ι ae] (ad,ae) rfl rfl (xO η) (by simp[Value.oneCell']) (λw' _=>rfl) (λb h=>h.elim) ζ τ (d.o.al _).size ?_;intro v' w8 H Y ai;have aT:Hid (qa w1 w8):=κ (Below.grown (d.o.al _) Y (d.o.al _).size aA.o);obtain⟨bl,bh,aW,rfl,aR,aS⟩:=H.shape;have aF:=κ H;clear H Y ai aR aS))
     go_roundw
     case rel=>exact⟨k+1,τ,by go_num,⟨_,_,_,rfl⟩,by rw[aD.o];exact aF.o,aT.o⟩
     case measure=>simp[intOf];omega
    ·obtain rfl:k=L.length:=by omega
     have aL: ¬(L.length:Int)<(L.length:Int):=by omega
     have ay:Hid (B++(M++(wl L i).take L.length)=B++(M++wl L i)):=κ (by rw[<-gT L i,List.take_length]);go_wp2;go_roundw
     case rel=>exact⟨i+1,τ,by go_num,⟨_,_,_,rfl⟩,by rw[az.o,<-ay.o];exact G.o,d.o⟩
     case measure=>simp[intOf];omega
  ·obtain rfl:i=n:=by omega
   have aK: ¬(i:Int)<(i:Int):=by omega
   go_wp2
   go_ret2
   exact⟨⟨_,rfl,G.o.low ac.o.size⟩,ac.o.trans d.o⟩
theorem cfq (c:CfR) {w w1:World} (m:qa (w.alloc (.cells #[ι c.room,ι c.hold,ι c.wait,ι c.space,ι c.retry,ι c.most] 25)) w1):
  qa w w1/\w1.cell? ⟨w.heap.size,0,none⟩=some (ι c.room)/\w1.cell? ⟨w.heap.size,1,none⟩=some (ι c.hold)/\w1.cell? ⟨w.heap.size,2,none⟩=some (ι c.wait)/\w1.cell? ⟨w.heap.size,3,none⟩=some (ι c.space)/\w1.cell? ⟨w.heap.size,4,none⟩=some (ι c.retry)/\w1.cell? ⟨w.heap.size,5,none⟩=some (ι c.most):=by
 have B:=qc m (qk w _);exact⟨(qa.alloc _ _).trans m,qb B 0 rfl,qb B 1 rfl,qb B 2 rfl,qb B 3 rfl,qb B 4 rfl,qb B 5 rfl⟩
theorem UQ (s:RmS) (acc:Bool) (L:List Og) (j:Nat) (h:j<L.length):s.picks acc (L.take (j+1))=((s.picks acc (L.take j)).pick (L[j].1,L[j].2) acc).1:=by
 unfold RmS.picks;rw[List.take_succ_eq_append_getElem h,List.foldl_append];rfl
theorem yS (acc:Bool) (L:List Og): ∀{n:Nat} {s:RmS},qX n s->qX (n+L.length) (s.picks acc L):=by
 induction L with
 | nil=>intro n s h;exact h
 | cons w L ih=>
  intro n s h;rw[UR,List.length_cons,show n+(L.length+1)=n+1+L.length by omega];exact ih (h.pick w acc)
theorem Ao {I w wr:World} {R:Nat} {s:RmS} {F:List Nat} {n j:Nat} {acc:Bool} {L:List Og} (H:RmR I wr R (s.picks acc (L.take j)) F) (t:qt F w wr) (ab:qX n s) (ac:n+L.length<=10000) (aa:j<L.length) {d G:Int} (U:L[j].1=d) (Y:L[j].2=G):
  ∃a,Calls prog 31 #[γ R,θ #[ι d,ι G],acc] (wr.alloc (.cells #[ι d,ι G] 37)) λe w'=>e= .returned (μ a)/\RmR I w' R (s.picks acc (L.take (j+1))) F/\qt F w w':=by
 subst U Y;have m:=qa.alloc wr (.cells #[ι L[j].1,ι L[j].2] 37);refine⟨_,(Hz (H.on m) (yS acc _ ab) (by rw[List.length_take];omega) _ _ acc rfl).mono λe w' ⟨J,N,O⟩=>⟨J, ?_,(t.trans (H.stay m)).trans O⟩⟩;rw[UQ s acc L j aa];exact N
theorem YF {w:World} {v:Value} {L:List Og} {base:Nat} (h:qV 2 RO (λ_=>False) w base 37 v L) (H:0<L.length): ∃g cap,v= δ (some ⟨g,0,none⟩) L.length cap/\base<=g/\g<w.heap.size/\
  ∀j (d:j<L.length),w.cell? ⟨g,j* 2,none⟩=some (ι L[j].1)/\w.cell? ⟨g,j* 2+1,none⟩=some (ι L[j].2):=by
 obtain⟨o,cap,rfl,k⟩:=WC h;obtain⟨g,rfl,-,-⟩:=k.2 _ (qa.refl _) 0 H;refine⟨g,cap,rfl,h.ge rfl,h.lt rfl,λj d=> ?_⟩;obtain⟨b,e,G⟩:=k.2 _ (qa.refl _) j d;injection e with e
 injection e with e _ _
 subst e;exact G
theorem MP {I w:World} {R:Nat} {s:RmS} {F:List Nat} (h:RmR I w R s F) (x:Int) (H: ∀x l,qh s.lanes x=some l->l.A=[]/\l.B=[]/\l.C=[]):Calls prog 24 #[γ R,ι x] w λe w'=>
  ∃c1 c2 g t,e= .returned (.tuple #[θ #[ι c1,ι c2],θ #[ι 0,ι 0,ι 0],g,t])/\qa w w':=by
 have e0:(s.ln x).A=[]/\(s.ln x).B=[]/\(s.ln x).C=[]:=by
  unfold RmS.ln;cases e:qh s.lanes x with
  | none=>exact⟨rfl,rfl,rfl⟩
  | some l=>exact H x l e
 refine(MQ h x rfl rfl).mono λe w' d=>⟨(s.ln x).cur,(s.ln x).tgt,(s.ln x).gone,(qh s.lanes x).isSome, ?_,d.2⟩
 have G:=d.1;rw[e0.1,e0.2.1,e0.2.2] at G;exact G
theorem Xt (L M:List Og): ∀n,∃d:List (List Og),d.length=n/\d.flatten=zc L M n/\ ∀X∈d,∀v∈L,v∈X
 | 0=>⟨[],rfl,rfl,λ_ h=>by cases h⟩
 | n+1=>by
  obtain⟨d,H,I,J⟩:=Xt L M n;refine⟨d++[M++wl L n],by simp[H],by rw[List.flatten_append,I];simp[zc],λX N v G=> ?_⟩;rcases List.mem_append.1 N with h | h
  ·exact J X h v G
  ·rw[List.mem_singleton.1 h];exact List.mem_append_right _ (Cw G n)
theorem Xy (k:Nat): ∀s:RmS,s.tickN (k+1)=(s.tickN k).tick.1:=by
 induction k with
 | zero=>intro s;rfl
 | succ k ih=>intro s;exact ih s.tick.1
theorem kv {n:Nat} {s:RmS} (h:qX n s): ∀k,qX (n+k) (s.tickN k)
 | 0=>h
 | k+1=>by rw[Xy];exact(kv h k).tick
theorem Kz {n:Nat} {s:RmS} (J:qX n s) {c:CfR} (I:Jv c s) (M:List Og) {s1 s3:RmS} (d:s.picks true (zc s.workers M s.cfg.room.toNat)=s1)
  (G:(s1.tickN s.cfg.wait.toNat).picks true (zc s.workers M (4* s.cfg.room.toNat+9* s.cfg.hold.toNat))=s3):
  s1.closed=false/\s3.queue=[]/\s3.held=0/\(∀x l,qh s3.lanes x=some l->l.A=[]/\l.B=[]/\l.C=[])/\(∀x i,qh s3.book (x,i)≠some 0)/\ ∀w,s3.may w=false:=by
 obtain⟨aa,ac,ad,a3⟩:=Xt s.workers M s.cfg.room.toNat;obtain⟨ab,ae,af,ag⟩:=Xt s.workers M (4* s.cfg.room.toNat+9* s.cfg.hold.toNat);have N:=yS true (zc s.workers M s.cfg.room.toNat) J;rw[d] at N;have O:=yS true (zc s.workers M (4* s.cfg.room.toNat+9* s.cfg.hold.toNat)) (kv N s.cfg.wait.toNat);rw[G] at O;rw[<-ad] at d;rw[<-af] at G;have al:=J.num.fit;obtain⟨ak,aj,H,_,U⟩:=U7 I.closed J.ow.org I.bf I.lk τ aa ab s.cfg.wait.toNat (Int.self_le_toNat _) ac ae a3 ag s1 s3 d N.ow.org G;obtain⟨ah,ai⟩:=Va H U O.ow;refine⟨aj,H.queue, ?_,λx l Y=> ?_,ah,ai⟩
 ·rw[<-CJ,List.length_eq_zero_iff];unfold RmS.heldL;rw[List.flatMap_eq_nil_iff];intro o _;cases ht:qh s3.strs o with
  | none=>rfl
  | some t=>simp only;rw[H.held o t ht];rfl
 ·have:=U x (O.ow.sub x l Y).1;unfold RmS.ln at this;rw[Y] at this;exact this
theorem Gk {k:Int×Int} {f:Int}: ∀{m:Bk},(m.map Prod.fst).Nodup->(k,f)∈m->qh m k=some f
 | (a,b)::l,hn,h=>by
  simp only[List.map_cons,List.nodup_cons] at hn;unfold qh;rcases List.mem_cons.1 h with e | h
  ·cases e;exact if_pos rfl
  ·rw[if_neg (λe:k=a=>hn.1 (e▸List.mem_map_of_mem (f:=Prod.fst) h)),Gk hn.2 h]
theorem Px {m:Bk} (d:(m.map Prod.fst).Nodup) (h: ∀x i,qh m (x,i)≠some 0) (x:Int):xL m x=[]:=
 List.eq_nil_iff_forall_not_mem.2 λi hi=>h x i (Gk d (pendB_mem.1 hi))
theorem YW (n m:Int) (d:1<=n) (G:n<=m) (w:World):Calls prog 76 #[ι n,ι m] w λe w'=>e= .returned (μ true)/\qa w w':=by
 go_enter func76,ntmps76
 go_wp2;go_ret;exact⟨rfl,qa.refl _⟩
theorem Hv (n a b x:Int) (d:1<=n/\n<=1000) (G:1<=a/\a<=8) (H:1<=b/\b<=8) (ae:n* (5* a+9* b)=x) (ad:0<=x/\x<=1000000) (w:World):Calls prog 63 #[ι n,ι a,ι b] w λe w'=>e= .returned (.tuple #[ι x,ι 0])/\qa w w':=by
 have O:=κ (λw=>YW n 1000 d.1 d.2 w);have U:=κ (λw=>YW a 8 G.1 G.2 w);have Y:=κ (λw=>YW b 8 H.1 H.2 w);obtain⟨ag,ah⟩:=G;obtain⟨ai,aj⟩:=H;obtain⟨ak,al⟩:=ad;clear d
 go_enter func63,ntmps63
 go_wp2_with (first | (go_at_call 76;((with_reducible refine(O.o _).mono ?_);rintro e w1 ⟨rfl,I⟩;have aa:Hid (qa w w1):=κ I;clear I)) | (go_at_call 76;((with_reducible refine(U.o _).mono ?_);rintro e w2 ⟨rfl,J⟩;have ab:Hid (qa w w2):=κ (aa.o.trans J);clear J)) | (go_at_call 76;((with_reducible refine(Y.o _).mono ?_);rintro e af ⟨rfl,N⟩;have ac:Hid (qa w af):=κ (ab.o.trans N);clear N)))
 go_ret2
 exact⟨by simp[ae],ac.o⟩
theorem PJ (k a b:Nat):(k:Int)* (5* (a:Int)+9* (b:Int))=((a* k:Nat):Int)+(((4* a+9* b)* k:Nat):Int):=by
 have h:k* (5* a+9* b)=a* k+(4* a+9* b)* k:=by
  rw[<-Nat.add_mul,Nat.mul_comm]
  congr 1
  omega
 have e:(k:Int)* (5* (a:Int)+9* (b:Int))=((k* (5* a+9* b):Nat):Int):=by simp
 rw[e,h];simp
theorem CQ {c:CfR} {ao w:World} {R:Nat} {s s1 s2 s3:RmS} {F:List Nat} {n a b ab:Nat} (h:RmR ao w R s F) (aL:qX n s) (bL:n<=130) (am:c.room=a) (U:c.hold=b) (bj:c.wait=ab) (bx:zR c=true) (bK:ab<=50) (v:Value) (M:List Og) (aA:SlP 2 RO w v M) (bc:M.length<=20)
  (aw:s.picks true (zc s.workers M a)=s1) (aF:s1.tickN ab=s2) (aG:s2.picks true (zc s.workers M (4* a+9* b))=s3) (J:s1.closed=false):
  Calls prog 22 #[γ R,θ #[ι c.room,ι c.hold,ι c.wait,ι c.space,ι c.retry,ι c.most],v] w λe w'=>e= .returned (μ true)/\RmR ao w' R s3 F/\qt F w w':=by
 obtain⟨⟨aY,av⟩,⟨aZ,ba,-,-⟩,-,-⟩:=vn bx;rw[am] at aY av;rw[U] at aZ ba;obtain⟨bO,bJ,rfl,_⟩:=id aA;have bD:=JB s;have bC:2<=s.workers.length:=by unfold RmS.workers yt;simp
 have aO:=yW s.workers M a;have aP:=yW s.workers M (4* a+9* b);have ap:=κ (XK (h.on (qa.alloc w (.cells #[ι c.room,ι c.hold,ι c.wait,ι c.space,ι c.retry,ι c.most] 25))) a τ _ M (aA.keep YD (qa.alloc _ _)) bc);have aq:=κ (λw2 (m:qa w w2)=>XK (h.on m) (4* a+9* b) τ _ M (aA.keep YD m) bc);have bb:((4* a+9* b:Nat):Int)=4* c.room+9* c.hold:=by rw[am,U];omega
 rw[<-am] at ap;simp only[bb] at aq;obtain⟨-,-,bE,p2,-⟩:=id (cfq c (qa.refl (w.alloc (.cells #[ι c.room,ι c.hold,ι c.wait,ι c.space,ι c.retry,ι c.most] 25))));have au:Hid (∀w2,qa (w.alloc (.cells #[ι c.room,ι c.hold,ι c.wait,ι c.space,ι c.retry,ι c.most] 25)) w2->_):=κ (λw2 m=>cfq c m);have aH:=PJ (M.length+s.workers.length) a b;rw[<-aO,<-aP,<-am,<-U,Int.natCast_add] at aH;have bf:a* (M.length+s.workers.length)<=8* 40:=Nat.mul_le_mul τ τ;have bg:(4* a+9* b)* (M.length+s.workers.length)<=104* 40:=Nat.mul_le_mul τ τ;have bh:1* 2<=a* (M.length+s.workers.length):=Nat.mul_le_mul τ τ;have bi:1* 2<=(4* a+9* b)* (M.length+s.workers.length):=Nat.mul_le_mul τ τ;rw[<-aO] at bf bh;rw[<-aP] at bg bi;have ar:=κ (λw=>Hv ((M.length:Int)+(s.workers.length:Int)) c.room c.hold _ τ τ τ aH τ w);obtain⟨d,bd⟩: ∃P,zc s.workers M a=P:=⟨_,rfl⟩;obtain⟨I,be⟩: ∃P,zc s.workers M (4* a+9* b)=P:=⟨_,rfl⟩;rw[bd] at aw ap ar bf bh;rw[be] at aG aq ar bg bi;have bt:=κ aL;have aC:=κ (yS true d aL);rw[aw] at aC;have aW:=κ (kv aC.o ab);rw[aF] at aW;have aB:=κ h;have bq:=κ aF;have br:=κ aG;have bp:=κ aw;have bu:=κ J;generalize (s.workers.length:Int)=lw at *;have aT:=κ bj;have bP:1<=c.room:=by omega
 have aQ:c.room<=8:=by omega
 have aR:1<=c.hold:=by omega
 have bQ:c.hold<=8:=by omega
 clear aO aP aH h aL aA aw aF aG bd be bb bD bC J am U bj aY av aZ ba
 go_enter func22,ntmps22
 go_wp2_with (first | (go_at_call 29;((with_reducible refine(ap.o).mono ?_);rintro e w2 ⟨⟨bR,rfl,aQ⟩,aN⟩;obtain⟨N,bM,rfl,bz,aI,bk⟩:=YF aQ τ;obtain⟨aX,z0,bH,bI,-⟩:=au.o _ aN;have aU:=κ bk;have ay:=κ aN;have ax:=κ aX;clear aN aX aQ bk)) | (go_at_call 29;((with_reducible refine(aq.o _ ax.o).mono ?_);rintro e bS ⟨⟨v3,rfl,aR⟩,an⟩;obtain⟨O,bN,rfl,bA,aJ,bl⟩:=YF aR τ;obtain⟨-,z3,z4,z5,-⟩:=au.o _ (ay.o.trans an);have aV:=κ bl;have aM:=κ (ax.o.trans an);have bm:=κ (ay.o.trans an);have az:=κ an;clear an aR bl)) | (go_at_call 63;(go_call ar.o _ as e w4 ⟨rfl,bn⟩;have aa:=κ bn;clear bn)))
 have aE:=κ (aB.o.adds (Fn:=[w.heap.size,N,O]) (aM.o.trans aa.o) (λb U=>by simp at U;have:=ax.o.size;have:=az.o.size;have:=aa.o.size;have:=ay.o.size;have e:=(World.size_alloc w (.cells #[ι c.room,ι c.hold,ι c.wait,ι c.space,ι c.retry,ι c.most] 25));omega));have aS:Hid (∀j (Y:j<d.length),w4.cell? ⟨N,j* 2,none⟩=some (ι d[j].1)/\w4.cell? ⟨N,j* 2+1,none⟩=some (ι d[j].2)):=κ (λj Y=>by rw[(az.o.trans aa.o).cells _ _ aI,(az.o.trans aa.o).cells _ _ aI];exact aU.o j Y);have bs:Hid (∀j (Y:j<I.length),w4.cell? ⟨O,j* 2,none⟩=some (ι I[j].1)/\w4.cell? ⟨O,j* 2+1,none⟩=some (ι I[j].2)):=κ (λj Y=>by rw[aa.o.cells _ _ aJ,aa.o.cells _ _ aJ];exact aV.o j Y);obtain⟨-,-,-,bo,-⟩:=au.o _ (bm.o.trans aa.o);have Z:=κ bo;have T0:=κ (aE.o.stay (qa.refl _));have bw:=κ (aB.o.stay (aM.o.trans aa.o));clear au ap aq ar aU aV ay ax aM bm az aa z0 bH bI z3 z4 z5 bo bE p2 bz aI bA aJ aB
 go_loopw [60] (λi af=> ∃j:Nat,j<=d.length/\i= ι j/\RmR ao af R (s.picks true (d.take j)) ([w.heap.size,N,O]++F)/\qt ([w.heap.size,N,O]++F) w4 af) (λi _=>d.length-(intOf i).toNat)
 case atStart=>exact⟨0,τ,rfl,aE.o,T0.o⟩
 case round=>
  clear aE T0;obtain⟨j,Y,rfl,ad,J⟩:=hrel;have G:=κ ad;have H:=κ J;clear ad J;by_cases hlt:j<d.length
  ·have aK:(j:Int)<(d.length:Int):=by omega
   obtain⟨ak,c1⟩:=aS.o j hlt;rw[<-H.o.cell (b:=N) η] at ak c1;obtain⟨bF,ag⟩: ∃y,d[j].1=y:=⟨_,rfl⟩;obtain⟨bG,ah⟩: ∃y,d[j].2=y:=⟨_,rfl⟩;obtain⟨av,al⟩:=Ao G.o H.o bt.o τ hlt ag ah;have aD:=κ al;rw[ag] at ak;rw[ah] at c1;clear al ag ah
   go_wp2_with ((go_at_call 31;(go_call aD.o as e w6 ⟨rfl,ac,ae⟩;have ai:=κ ac;have aj:=κ ae;clear ac ae)))
   go_roundw
   case rel=>exact⟨j+1,τ,by go_num,ai.o,aj.o⟩
   case measure=>simp[intOf];omega
  ·obtain rfl:j=d.length:=by omega
   have aK: ¬(d.length:Int)<(d.length:Int):=by omega
   rw[List.take_length,bp.o] at G;rw[<-H.o.cell (b:=w.heap.size) η] at Z;have z:=Z.o;go_wp2
   go_loopw [70] (λi af=> ∃j:Nat,j<=ab/\i= ι j/\RmR ao af R (s1.tickN j) ([w.heap.size,N,O]++F)/\qt ([w.heap.size,N,O]++F) w4 af) (λi _=>ab-(intOf i).toNat)
   case atStart=>exact⟨0,τ,rfl,G.o,H.o⟩
   case round=>
    clear G H z Z aS Y;obtain⟨j,Y,rfl,ad,J⟩:=hrel;have G:=κ ad;have H:=κ J;clear ad J;by_cases hlt:j<ab
    ·have bB:(j:Int)<c.wait:=by have:=aT.o;omega
     have bv:=κ (Ms G.o (kv aC.o j) τ (Prod.ext (Xy j s1).symm (Qz (kS j bu.o).1).1))
     go_wp2_with ((go_at_call 34;(go_call bv.o as e w6 ⟨rfl,ac,ae⟩;have ai:=κ ac;have aj:=κ (H.o.trans ae);clear ac ae)))
     go_roundw
     case rel=>exact⟨j+1,τ,by go_num,ai.o,aj.o⟩
     case measure=>simp[intOf];omega
    ·obtain rfl:j=ab:=by omega
     have bB: ¬(j:Int)<c.wait:=by have:=aT.o;omega
     rw[bq.o] at G;go_wp2
     go_loopw [78] (λi af=> ∃j:Nat,j<=I.length/\i= ι j/\RmR ao af R (s2.picks true (I.take j)) ([w.heap.size,N,O]++F)/\qt ([w.heap.size,N,O]++F) w4 af) (λi _=>I.length-(intOf i).toNat)
     case atStart=>exact⟨0,τ,rfl,G.o,H.o⟩
     case round=>
      clear G H;obtain⟨j,Y,rfl,ad,J⟩:=hrel;have G:=κ ad;have H:=κ J;clear ad J;by_cases hlt:j<I.length
      ·have aK:(j:Int)<(I.length:Int):=by omega
       obtain⟨ak,c1⟩:=bs.o j hlt;rw[<-H.o.cell (b:=O) η] at ak c1;obtain⟨bF,ag⟩: ∃y,I[j].1=y:=⟨_,rfl⟩;obtain⟨bG,ah⟩: ∃y,I[j].2=y:=⟨_,rfl⟩;obtain⟨av,al⟩:=Ao G.o H.o aW.o τ hlt ag ah;have aD:=κ al;rw[ag] at ak;rw[ah] at c1;clear al ag ah
       go_wp2_with ((go_at_call 31;(go_call aD.o as e w6 ⟨rfl,ac,ae⟩;have ai:=κ ac;have aj:=κ ae;clear ac ae)))
       go_roundw
       case rel=>exact⟨j+1,τ,by go_num,ai.o,aj.o⟩
       case measure=>simp[intOf];omega
      ·obtain rfl:j=I.length:=by omega
       have aK: ¬(I.length:Int)<(I.length:Int):=by omega
       rw[List.take_length,br.o] at G;go_wp2;go_ret;exact⟨rfl,G.o.sub (λb U=>List.mem_append_right _ U),bw.o.trans (H.o.sub (λb U=>List.mem_append_right _ U))⟩
theorem Zr {c:CfR} {U w:World} {R:Nat} {s:RmS} {n:Nat} (h:RmR U w R s []) (H:qX n s) (ab:n<=130) (J:Jv c s) (I:zR c=true) (am:c.wait<=50) (v:Value) (M:List Og) (ae:SlP 2 RO w v M) (aa:M.length<=20):
  ∃s3 m,m<=10000/\qX m s3/\(Calls prog 22 #[γ R,θ #[ι c.room,ι c.hold,ι c.wait,ι c.space,ι c.retry,ι c.most],v] w λe w'=>e= .returned (μ true)/\RmR U w' R s3 []/\qt [] w w')/\
   s3.queue=[]/\s3.held=0/\(∀x l,qh s3.lanes x=some l->l.A=[]/\l.B=[]/\l.C=[])/\(∀x i,qh s3.book (x,i)≠some 0)/\ ∀w,s3.may w=false:=by
 obtain⟨⟨af,ag⟩,⟨ah,ai,Y,-⟩,-,-⟩:=vn I;obtain⟨s1,d⟩: ∃x,s.picks true (zc s.workers M c.room.toNat)=x:=⟨_,rfl⟩;obtain⟨s3,G⟩: ∃x,(s1.tickN c.wait.toNat).picks true (zc s.workers M (4* c.room.toNat+9* c.hold.toNat))=x:=⟨_,rfl⟩;have e:=J.cfg;obtain⟨ac,ad⟩:=Kz H J M (s1:=s1) (s3:=s3) (by rw[e];exact d) (by rw[e];exact G);have al:=JB s;have N:=yS true (zc s.workers M c.room.toNat) H;rw[d] at N;have O:=yS true (zc s.workers M (4* c.room.toNat+9* c.hold.toNat)) (kv N c.wait.toNat);rw[G,yW,yW] at O;have aj:c.room.toNat* (M.length+s.workers.length)<=8* 40:=Nat.mul_le_mul τ τ;have ak:(4* c.room.toNat+9* c.hold.toNat)* (M.length+s.workers.length)<=104* 40:=Nat.mul_le_mul τ τ;exact⟨s3,_,τ,O,CQ h H ab (Int.toNat_of_nonneg τ).symm (Int.toNat_of_nonneg τ).symm (Int.toNat_of_nonneg Y).symm I τ v M ae aa d rfl G ac,ad⟩
def Ok (n:Int) (c:UInt8):Int:=10* n+((c.toNat:Int)-48)
def Ze (l:List UInt8):Int:=l.foldl Ok 0
def WG (c:UInt8):Bool:=decide (48<=c.toNat)&&decide (c.toNat<=57)
theorem ZS (l:List UInt8) (i:Nat) (h:i<l.length):Ze (l.take (i+1))=10* Ze (l.take i)+((l[i].toNat:Int)-48):=by
 unfold Ze;rw[List.take_succ_eq_append_getElem h,List.foldl_append];rfl
theorem Gi (l:List UInt8) (G: ∀c∈l,WG c=true): ∀i,i<=l.length->0<=Ze (l.take i)/\Ze (l.take i)<((10 ^ i:Nat):Int)
 | 0,_=>by simp[Ze]
 | i+1,h=>by
  obtain⟨H,I⟩:=Gi l G i τ;have d:=G _ (List.getElem_mem (show i<l.length by omega));unfold WG at d;rw[Bool.and_eq_true] at d;have J:=of_decide_eq_true d.1;have N:=of_decide_eq_true d.2;rw[ZS l i τ,Nat.pow_succ];generalize 10 ^ i=p at *;omega
structure yM (wd:ByteArray) (most n:Int):Prop where
 pos:1<=wd.data.toList.length
 few:wd.data.toList.length<=9
 dig: ∀c∈wd.data.toList,WG c=true
 val:Ze wd.data.toList=n
 le:n<=most
theorem F5 (s:ByteArray):s.size=s.data.toList.length:=rfl
theorem UW {d:ByteArray} {ad n:Int} (h:yM d ad n) (w:World):
  Calls prog 214 #[.string d,ι ad] w λe w'=>e= .returned (ι n)/\qa w w':=by
 obtain⟨ak,am,J,ac,az⟩:=h;obtain⟨l,G⟩:=ν (d.data.toList);obtain⟨cap,W1,ao,aa,O⟩: ∃cap W1,(convert 9 35 (.string d)).run prog w= .ok (δ (some ⟨w.heap.size,0,none⟩) l.length cap) W1/\(∀i (hi:i<l.length),W1.cell? ⟨w.heap.size,i,none⟩=some (υ (l[i].toNat:Int)))/\qa w W1:=by
  subst G;refine⟨_,_,run_bytes_of_string w 9 35 5 d underlying9 underlying35 underlying5,λi hi=> ?_,(qa.drewN w 1).al _⟩;have e:=World.cell?_alloc_mark w.drew (bytesRow d (grownCap w d.size 0 5)) 5 ((bytesRow d (grownCap w d.size 0 5)).size,(bytesRow d (grownCap w d.size 0 5)).size+1) i;refine e.trans ?_;rw[bytesRow_at d _ i (by simpa using hi)];simp
 have af:=κ aa
 have ag:Hid (∀i (hi:i<l.length),(48:Int)<=l[i].toNat/\(l[i].toNat:Int)<=57):=κ (λi hi=>by
  subst G;have H:=J _ (List.getElem_mem hi);unfold WG at H;rw[Bool.and_eq_true] at H;have ax:=of_decide_eq_true H.1;have ay:=of_decide_eq_true H.2
  omega)
 have ae:=κ (Gi l (by rw[<-G];exact J));have aj:=κ (ZS l);have ai:Hid (Ze (l.take l.length)=n):=κ (by rw[List.take_length,<-G];exact ac);have aA:(d.size:Int)=(l.length:Int):=by rw[F5,G]
 rw[G] at ak am;have aB: ¬(l.length:Int)<1:=by omega
 have aC: ¬(9:Int)<(l.length:Int):=by omega
 have ah:=κ O;clear aa J ac G O
 go_enter func214,ntmps214
 go_wp2
 go_loopw [5,20] (λu N wr=> ∃i:Nat,i<=l.length/\N= ι i/\u= ι (Ze (l.take i))/\qa W1 wr) (λ_ N _=>l.length-(intOf N).toNat)
 case atStart=>exact⟨0,τ,rfl,rfl,qa.refl _⟩
 case round=>
  obtain⟨i,hi,rfl,rfl,ab⟩:=hrel;have I:=κ ab;clear ab ao;by_cases hlt:i<l.length
  ·have ap:(i:Int)<(l.length:Int):=by omega
   have au:wr.cell? ⟨w.heap.size,i,none⟩=some (υ (l[i].toNat:Int)):=by
    have e:=af.o i hlt;rw[I.o.cells _ _ (kN e).2];exact e
   obtain⟨av,aw⟩:=ag.o i hlt;obtain⟨ar,U⟩:=ae.o i τ;have Y:10 ^ i<=10 ^ 9:=Nat.pow_le_pow_right ζ τ;have an:=aj.o i hlt;generalize Ze (l.take i)=q at *;generalize ((l[i].toNat:Nat):Int)=c at *;have aD: ¬c<48:=by omega
   have aE: ¬57<c:=by omega
   have aG:q<=1000000000:=by
    generalize 10 ^ i=p at U Y;omega
   have aF:IntKind.u8.wrap (c-48)=c-48:=IntWalk.u8_in _ τ;clear U Y;go_wp2;go_roundw
   case rel=>exact⟨i+1,τ,by go_num,by rw[an],I.o⟩
   case measure=>simp[intOf];omega
  ·obtain rfl:i=l.length:=by omega
   have ap: ¬(l.length:Int)<(l.length:Int):=by omega
   have aq:=ai.o;rw[aq];go_wp2;go_ret;exact⟨rfl,ah.o.trans I.o⟩
def RTx:qJ ByteArray:=λ_ cs s=>cs=[.string s]
theorem FM:wC RTx:=λ_ _ _ _ _ h=>h
def Ub (c:UInt8):Int:=if c=115 then 65535 else if c=116 then 20 else 999999999
theorem SlP.strs {w w':World} {H:Option Addr} {n cap:Nat} {L:List ByteArray} (h:SlP 1 RTx w (δ H n cap) L) (m:qa w w') (i:Nat) (hi:i<L.length): ∃b d,H=some ⟨b,d,none⟩/\w'.cell? ⟨b,d+i,none⟩=some (.string L[i]):=by
 obtain⟨aa,U,e,_,I,_⟩:=h;injection e with e1 e2 e3
 subst e1;obtain⟨b,d,cs,rfl,J,Y,N,O⟩:=I i hi;refine⟨b,d,rfl, ?_⟩;have G:=N 0 τ;rw[Nat.mul_one,Nat.add_zero] at G;rw[m.cells _ _ J,G,show cs=[.string L[i]] from O];rfl
structure gA (fm:ByteArray) (ws:List ByteArray) (ns:List Int):Prop where
 len:ws.length=fm.data.toList.length
 few:ws.length<=100
 pos:0<ws.length
 same:ns.length=ws.length
 ok: ∀i (h:i<ws.length) (h1:i<fm.data.toList.length) (h2:i<ns.length),yM ws[i] (Ub fm.data.toList[i]) ns[i]
theorem Ks {H:ByteArray} {d:List ByteArray} {G:List Int} (h:gA H d G) (aC:Option Addr) (cap:Nat) (w:World) (aE:SlP 1 RTx w (δ aC d.length cap) d):
  Calls prog 160 #[.string H,δ aC d.length cap] w λe w'=>(∃g cap,e= .returned (δ (some ⟨g,0,none⟩) G.length cap)/\w.heap.size<=g/\g<w'.heap.size/\ ∀i y,G[i]? =some y->w'.cell? ⟨g,i,none⟩=some (ι y))/\qa w w':=by
 obtain⟨aU,hi,aR,aS,aT⟩:=info_parts (P:=prog) (e:=3) (z:= ι 0) (size:=1) (bytes:=8) ξ;obtain⟨I,bc,be,aq,ar⟩:=h;have aJ:=κ aE;have aL:=κ ar;have bf:(H.size:Int)=(d.length:Int):=by rw[I];rfl
 have aF:Hid (∀i (hi:i<d.length) (I:i<H.data.toList.length) (wr:World),(Instr.index 9 (.string H) (ι (i:Int))).run prog wr= .ok (υ (H.data.toList[i].toNat:Int)) wr):=κ (λi hi I wr=>by
  rw[run_index_string wr 9 H .i64 (i:Int) underlying9,dif_pos ⟨τ,τ⟩]
  rfl)
 have aG:=κ I;have J:=κ aq;clear ar aE I aq
 go_enter func160,ntmps160
 go_wp2
 go_loopw [5,17] (λu ah wr=> ∃i:Nat,i<=d.length/\ah= ι i/\(∃aD aB an,u= δ aD aB an)/\wr.ownsRow w.heap.size 3 1 u (G.take i).length ((G.take i).map (Value.int .i64))/\qa w wr) (λ_ ah _=>d.length-(intOf ah).toNat)
 case atStart=>exact⟨0,τ,rfl,⟨_,_,_,rfl⟩,World.ownsRow_nil _ _ _ _,qa.refl _⟩
 case round=>
  obtain⟨i,bd,rfl,⟨aD,aB,an,rfl⟩,az,ay⟩:=hrel;have ak:=κ az;have Y:=κ ay;clear az ay;by_cases hlt:i<d.length
  ·have aO:(i:Int)<(d.length:Int):=by omega
   have aw:i<H.data.toList.length:=by have:=aG.o;omega
   have ax:i<G.length:=by have:=J.o;omega
   obtain⟨b,bj,rfl,aX⟩:=aJ.o.strs Y.o i hlt;have aA:=aF.o i hlt aw;have aa:=κ (UW (aL.o i hlt aw ax));have aK:Hid (G.take (i+1)=G.take i++[G[i]]):=κ (List.take_succ_eq_append_getElem ax);have bg:(G.take i).length<=100:=by rw[List.length_take];omega
   obtain⟨c,U⟩:=ν (H.data.toList[i]);rw[U] at aA aa;obtain⟨m,ae⟩:=ν (Ub c);rw[ae] at aa;generalize G[i]=y at *;generalize G.take i=fl at *;generalize d[i]=wd at *;clear U;obtain⟨q,ag⟩: ∃q:Int,((c.toNat:Nat):Int)=q:=⟨_,rfl⟩;rw[ag] at aA;have ao:c=115↔((c.toNat:Nat):Int)=115:=⟨λh=>by rw[h];rfl,λh=>UInt8.toNat_inj.1 (by show c.toNat=115;omega)⟩;have N:c=116↔((c.toNat:Nat):Int)=116:=⟨λh=>by rw[h];rfl,λh=>UInt8.toNat_inj.1 (by show c.toNat=116;omega)⟩;have aP:(q=115/\m=65535)∨(¬q=115/\q=116/\m=20)∨(¬q=115/\ ¬q=116/\m=999999999):=by
    rw[<-ae,<-ag];unfold Ub;simp only[ao,N];by_cases q1:((c.toNat:Nat):Int)=115
    ·simp[q1]
    ·by_cases q2:((c.toNat:Nat):Int)=116<;>simp[q1,q2]
   clear ae ag ao N;rcases aP with ⟨rfl,rfl⟩ | ⟨aV,rfl,rfl⟩ | ⟨aV,n2,rfl⟩
   all_goals
    go_wp2_with (first | (go_at_call 214;(go_call aa.o _ as e w5 ⟨rfl,ai⟩;have ab:=κ (Y.o.trans ai);have am:=κ (jy ak.o ai);clear ai)) | (at_builtin;(refine qK _ rfl (.tmp 29) (.tmp 33) 107 rfl w.heap.size 3 aU (ι 0) 8 underlying107 hi aR aS aT rfl _ .i64 fl rfl (am.o.alloc _) _ [y] rfl (SlI.lit .i64 w5 [y] 3 _ 1 _ η rfl η η) (by simp;omega) ζ (by have:=ab.o.size;simp;omega) ?_;intro bl w6 aj ap _;have aI:=κ aj;have aH:Hid (qa w w6):=κ (Below.grown (ab.o.al _) ap (ab.o.al _).size (λb ad=>j8 am.o ad));obtain⟨bh,aY,O⟩:=xG aj;rw[show (fl++[y]).length=fl.length+1 from by simp] at O;subst O;clear aj ap)))
    go_roundw
    case rel=>exact⟨i+1,τ,by go_num,⟨_,_,_,rfl⟩,by rw[aK.o];exact aI.o,aH.o⟩
    case measure=>simp[intOf];omega
  ·obtain rfl:i=d.length:=by omega
   have aO: ¬(d.length:Int)<(d.length:Int):=by omega
   have aM:Hid (G.take d.length=G):=κ (by rw[<-J.o,List.take_length]);go_wp2;go_ret;have af:=ak.o;rw[aM.o] at af;obtain⟨bi,aZ,e,_,U,_⟩:=SlI.of_owns af (by have:=J.o;omega);rcases id af.2 with ⟨_,bb⟩ | ⟨g,ba,cur,N,ad,aN,_⟩
   ·have:=J.o;omega
   ·rw[N] at e ⊢;injection e with e3 e4 e5
    subst e3 e5;refine⟨⟨g,⟨_,rfl⟩,ad,lt_of_block aN,λi y aQ=> ?_⟩,Y.o⟩;obtain⟨av,O⟩:=List.getElem?_eq_some_iff.1 aQ;obtain⟨aW,bk,ac,_,au⟩:=U i av;injection ac with ac
    injection ac with e8 e9 _
    subst e8 e9;rw[Nat.zero_add] at au;rw[au,<-O];simp[av]
section
variable {w00 w0 w w':World} {R:Nat} {s:RmS} {F Fn:List Nat}
theorem RmR.based (h:RmR w0 w R s F) (m:qa w00 w0) (H: ∀b∈Fn,w00.heap.size<=b/\b<w0.heap.size):RmR w00 w R s (Fn++F):=by
 obtain⟨k,rfl,T,vp,N,h⟩:=h;refine⟨k,rfl,T,vp,N,h.all,λb H=>Nat.le_trans m.size (h.ge b H),λb J=> ?_,m.trans h.more⟩;rcases List.mem_append.1 J with e | e
 ·obtain⟨d,G⟩:=H b e;refine⟨?_,d,Nat.lt_of_lt_of_le G h.more.size⟩;refine Classical.byContradiction λc=> ?_
  have:=h.ge b c;omega
 ·obtain⟨d,G,I⟩:=h.law b e;exact⟨d,Nat.le_trans m.size G,I⟩
theorem RmR.mut (h:RmR w0 w R s F) (a:qg (λb=>b∈F) w w'):RmR w0 w' R s F:=by
 obtain⟨k,rfl,T,vp,d,h⟩:=h;exact⟨k,rfl,T,vp,d,h.mut a⟩
theorem RmR.mutA (h:RmR w0 w R s F) (a:qg (λb=>b∈F) w w') (H: ∀b∈Fn,b∈F∨w.heap.size<=b/\b<w'.heap.size):RmR w0 w' R s (Fn++F):=by
 obtain⟨k,rfl,T,vp,I,h⟩:=h;have d:=h.mut a;refine⟨k,rfl,T,vp,I,d.all,d.ge,λb G=> ?_,d.more⟩;rcases List.mem_append.1 G with e | e
 ·rcases H b e with f | f
  ·exact d.law b f
  ·exact⟨h.fresh b f.1,Nat.le_trans h.more.size f.1,f.2⟩
 ·exact d.law b e
end
def Pl (w00:World) (pb:Nat) (o:Option RmS) (F:List Nat) (w:World):Prop:=pb∈F/\(∀b∈F,w00.heap.size<=b/\b<w.heap.size)/\qa w00 w/\match o with
 | none=>w.heap[pb]? =some (.cells #[.pointer none] 214 (0,0))
 | some s=> ∃R,RmR w00 w R s F/\w.heap[pb]? =some (.cells #[.pointer (some ⟨R,0,none⟩)] 214 (0,0))
def jV (pb:Nat) (F:List Nat) (w w':World):Prop:=w.heap.size<=w'.heap.size/\ ∀b∈F,b≠pb->w'.heap[b]? =w.heap[b]?
section
variable {w00 w w' w'':World} {pb:Nat} {o:Option RmS} {F F' Fn:List Nat}
theorem jV.refl:jV pb F w w:=⟨Nat.le_refl _,λ_ _ _=>rfl⟩
theorem jV.trans (h:jV pb F w w') (k:jV pb F w' w''):jV pb F w w'':=⟨Nat.le_trans h.1 k.1,λb d G=>(k.2 b d G).trans (h.2 b d G)⟩
theorem jV.sub (h:jV pb F w w') (H: ∀b∈F',b∈F):jV pb F' w w':=⟨h.1,λb d G=>h.2 b (H b d) G⟩
theorem jV.blk (h:jV pb F w w') {b:Nat} {x:Obj} (d:b∈F) (G:b≠pb) (k:w.heap[b]? =some x):w'.heap[b]? =some x:=by rw[h.2 b d G];exact k
theorem Pl.lt (h:Pl w00 pb o F w): ∀b∈F,b<w.heap.size:=λb d=>(h.2.1 b d).2
theorem Pl.mut (h:Pl w00 pb o F w) (a:qg (λb=>b∈F') w w') (J: ∀b∈F',b∈F) (I:pb∉F'):Pl w00 pb o F w':=by
 obtain⟨N,H,O,d⟩:=h;refine⟨N,λb G=>⟨(H b G).1,Nat.lt_of_lt_of_le (H b G).2 a.size⟩,a.to_more O (λb G=>(H b (J b G)).1), ?_⟩;cases o with
 | none=>exact a.blk d I
 | some s=>exact d.elim λR d=>⟨R,d.1.mut (a.mono J),a.blk d.2 I⟩
theorem Pl.on (h:Pl w00 pb o F w) (m:qa w w'):Pl w00 pb o F w':=h.mut (F':=[]) (qg.of_more m) (λ_ d=>by cases d) (λd=>by cases d)
theorem Pl.stay (h:Pl w00 pb o F w) (m:qa w w'):jV pb F w w':=⟨m.size,λb d _=>m.block b (h.lt b d)⟩
theorem Pl.sub (h:Pl w00 pb o F w) (G: ∀b∈F',b∈F) (N:pb∈F'):Pl w00 pb o F' w:=by
 obtain⟨O,H,I,d⟩:=h;refine⟨N,λb J=>H b (G b J),I, ?_⟩;cases o with
 | none=>exact d
 | some s=>exact d.elim λR d=>⟨R,d.1.sub G,d.2⟩
theorem Pl.mutA (h:Pl w00 pb o F w) (a:qg (λb=>b∈F') w w') (O: ∀b∈F',b∈F) (N:pb∉F') (J: ∀b∈Fn,b∈F∨w.heap.size<=b/\b<w'.heap.size):Pl w00 pb o (Fn++F) w':=by
 obtain⟨U,d,I,G⟩:=h;have Y:=I.size;refine⟨List.mem_append_right _ U,λb H=> ?_,a.to_more I (λb H=>(d b (O b H)).1), ?_⟩
 ·rcases List.mem_append.1 H with e | e
  ·rcases J b e with f | f
   ·exact⟨(d b f).1,Nat.lt_of_lt_of_le (d b f).2 a.size⟩
   ·exact⟨τ,f.2⟩
  ·exact⟨(d b e).1,Nat.lt_of_lt_of_le (d b e).2 a.size⟩
 ·cases o with
  | none=>exact a.blk G N
  | some s=>exact G.elim λR G=>⟨R,G.1.mutA (a.mono O) J,a.blk G.2 N⟩
theorem Pl.adds (h:Pl w00 pb o F w) (m:qa w w') (G: ∀b∈Fn,w.heap.size<=b/\b<w'.heap.size):Pl w00 pb o (Fn++F) w':=h.mutA (F':=[]) (qg.of_more m) (λ_ d=>by cases d) (λd=>by cases d) (λb d=>Or.inr (G b d))
end
theorem SlP.rest {w:World} {b d cap:Nat} {x:ByteArray} {L:List ByteArray} (h:SlP 1 RTx w (δ (some ⟨b,d,none⟩) (L.length+1) cap) (x::L)):SlP 1 RTx w (δ (some ⟨b,d+1,none⟩) L.length (cap-1)) L:=by
 obtain⟨ae,ab,e,H,I,J,ac,ad⟩:=h;injection e with e1 e2 e3
 subst e1 e3;rw[List.length_cons] at H J;refine⟨_,_,rfl,τ,λi hi=> ?_,τ,τ,λh=>by cases h⟩;obtain⟨aa,af,cs,e,N,Y,O,G⟩:=I (i+1) (by rw[List.length_cons];omega);injection e with e
 injection e with e6 e7 _
 subst e6 e7;refine⟨b,d+1,cs,rfl,N,Y,λj U=> ?_,by rw[List.getElem_cons_succ] at G;exact G⟩;rw[<-O j U]
 congr 2
 omega
theorem kZ (p:Addr) (w:World):
  CallsD prog 158 #[π (some p)] .returning w λe H w'=>e= .returned (.tuple #[])/\H= .returning/\w'=w:=by
 refine callsD_of_wpS func158 rfl λd cs G=> ?_
 apply wpS_seq;apply wpS_region;simp[wpOpsS,go_sem,recoverD,G,ntmps158,Exit.thenS];apply wpS_seq;apply wpS_region;simp[wpOpsS,go_sem,Exit.thenS];refine wpS_cond (t:=false) (by simp[Act.eval,Array.replicate]) ?_;refine wpS_of_wp (wp_skip ?_);cases d
 simp_all [bodyPostS,results,results158,Exit.thenS]
def Af (more:List UInt8):List UInt8:=if more=[] then [111,107] else [111,107,32]++more
theorem Pl.room {d w:World} {pb:Nat} {s:RmS} {F:List Nat} (h:Pl d pb (some s) F w): ∃R,RmR d w R s F/\w.heap[pb]? =some (.cells #[γ R] 214 (0,0)):=h.2.2.2
theorem vu {N w:World} {pb b ar cap:Nat} {o aj:Option RmS} {F:List Nat} {ai aA:ByteArray} {more:List UInt8} {args:List ByteArray} {aq:List Int}
  (h:Pl N pb o F w) (ak:SlP 1 RTx w (δ (some ⟨b,ar,none⟩) (args.length+1) cap) (ai::args))
  (hF: ∀w,Calls prog 161 #[.string ai] w λe w'=>e= .returned (.string aA)/\w'=w) (ah:gA aA args aq)
  (aZ:(ai.toList==([114,111,111,109]:List UInt8))=o.isNone) (aW:more.length<=1000)
  (aC: ∀(F:List Nat) (w:World) (g cap:Nat),Pl N pb o F w->g∈F->g≠pb->(∀i y,aq[i]? =some y->w.cell? ⟨g,i,none⟩=some (ι y))->Calls prog 162 #[γ pb,.string ai,δ (some ⟨g,0,none⟩) aq.length cap] w λe w'=>e= .returned (.string ⟨more.toArray⟩)/\Pl N pb aj F w'/\jV pb F w w'):
  Calls prog 101 #[γ pb,δ (some ⟨b,ar,none⟩) (args.length+1) cap] w λe w'=>e= .returned (.string ⟨(Af more).toArray⟩)/\Pl N pb aj F w'/\jV pb F w w':=by
 obtain⟨W1,ao⟩:=ν (w.alloc (.cells #[.string ⟨#[]⟩] 9));have ag:Hid (qa w W1):=κ (by rw[<-ao];exact qa.alloc _ _);have av:Hid (W1.heap[w.heap.size]? =some (.cells #[.string ⟨#[]⟩] 9 (0,0))):=κ (by rw[<-ao];exact qk _ _);have ab:Hid (Pl N pb o ([w.heap.size]++F) W1):=κ (h.adds ag.o (λb G=>by simp at G;subst G;exact⟨Nat.le_refl _,ql av.o⟩));have ap:Hid (pb≠w.heap.size):=κ (λe=>by have:=h.lt pb h.1;omega);have ay:Hid (jV pb F w W1):=κ (h.stay ag.o);have aT:args.length+1<=cap:=by
  obtain⟨bd,aQ,e,_,_,aM,_⟩:=id ak;injection e with _ _ e3
  subst e3;exact aM
 have aY:=ah.pos;have aU:=ah.few;obtain⟨aP,bc,e0,am⟩:=ak.strs ag.o 0 η;injection e0 with e0
 injection e0 with e1 e2 _
 subst e1 e2;rw[Nat.add_zero] at am;rw[List.getElem_cons_zero] at am;have ax:=κ (λw' (m:qa w w')=>Ks ah (some ⟨b,ar+1,none⟩) (cap-1) w' (SlP.keep FM ak.rest m));have ba:(1:Int)<=(args.length:Int)+1:=by omega
 have bb: ¬cap=1:=by omega
 have aK:=κ h.lt;clear h ak ah
 go_enter_defers func101,ntmps101
 go_upto_region 3 with fail
 clear am ao;refine xY W1 6 [(0,false),(2,false),(3,false),(1,true),(4,true),(5,false)] ξ ξ ?_
 refine Qq3 ?_
 (refine Ql ?_;intro K aa)
 go_call hF _ as e w5 ⟨rfl,rfl⟩;refine⟨_,rfl,qj ((qa.refl _).dr 1),aa _ _ ?_⟩;clear aa K
 (refine Ql ?_;intro K aa)
 go_call ax.o _ (ag.o.dr 1) as e w6 ⟨⟨g,aL,rfl,aD,aE,aF⟩,aI⟩;have ac:Hid (qa W1 w6):=κ (((qa.refl W1).dr 1).trans aI);refine⟨_,rfl,qj ac.o,aa _ _ ?_⟩;clear aa K
 iterate 1 (refine qD rfl rfl (qj ac.o) ?_;intro K aa;go_big_quiet_op;go_big_quiet_on)
 refine qv ?_;have aH:W1.heap.size<=g:=aD;have aw:Hid (Pl N pb o ([g]++([w.heap.size]++F)) w6):=κ (ab.o.adds ac.o (λb G=>by simp at G;subst G;exact⟨aH,aE⟩));have aG:g≠pb:=λe=>by have:=ab.o.lt pb ab.o.1;omega
 have az:Hid (jV pb ([w.heap.size]++F) W1 w6):=κ (ab.o.stay ac.o);have ae:=κ (aC _ w6 g aL aw.o η aG aF);have aJ:Hid (w6.heap[w.heap.size]? =some (.cells #[.string ⟨#[]⟩] 9 (0,0))):=κ (qc ac.o av.o);have ad:Hid (∀d,jV pb ([g]++([w.heap.size]++F)) w6 d->d.heap[w.heap.size]? =some (.cells #[.string ⟨#[]⟩] 9 (0,0))):=κ (λd t=>t.blk η (λe=>ap.o e.symm) aJ.o)
 have af:Hid (∀d v,Pl N pb aj ([g]++([w.heap.size]++F)) d->jV pb ([g]++([w.heap.size]++F)) w6 d->Pl N pb aj F (d.setCell ⟨w.heap.size,0,none⟩ v)/\jV pb F w (d.setCell ⟨w.heap.size,0,none⟩ v)):=κ (λd v I H=>by
  have a:qg (λb=>b∈[w.heap.size]) d (d.setCell ⟨w.heap.size,0,none⟩ v):=(qg.refl _ _).set η _;refine⟨(I.mut a (λb G=>by simp at G;subst G;simp) (λG=>by simp at G;exact ap.o G)).sub (λb G=>by simp[G]) ?_, ?_⟩
  ·have:=ab.o.1;rcases List.mem_append.1 this with e | e
   ·simp at e;exact absurd e ap.o
   ·exact e
  ·refine ay.o.trans ((az.o.sub (λb G=>by simp[G])).trans ((H.sub (λb G=>by simp[G])).trans ⟨a.size,λb G aX=> ?_⟩));have aV:b<w.heap.size:=aK.o b G
   exact a.block b (by have:=ay.o.1;have:=az.o.1;have:=H.1;omega) (λe=>by simp at e;omega))
 have aS:=λw=>run_string_add_lists (P:=prog) w [111,107,32] more ζ τ
 clear aD aE aF aI hF aC ax aG aH;cases o with
 | none=>
  by_cases hq:more=[]
  ·subst hq
   go_wp2_with ((go_at_call 162;(go_call ae.o as e d ⟨rfl,I,H⟩;have J:=κ (ad.o d H);have an:=qd J.o 0;have Y:=β0 J.o;have O:=κ (af.o d (.string ⟨#[111,107]⟩) I H);clear I H)))
   refine leaves_cons (f:=158) (args:= #[γ w.heap.size]) η (by simp[go_sem]) ?_;refine(kZ ⟨w.heap.size,0,none⟩ _).mono ?_;rintro e au w'' ⟨rfl,rfl,rfl⟩;have U: ∀v,(d.setCell ⟨w.heap.size,0,none⟩ v).cell? ⟨w.heap.size,0,none⟩=some v:=λv=>World.cell?_setCell_same' _ _ v (by rw[Y];rfl)
   simp[Leaves,settle,results,results101,go_sem,U];exact⟨by rfl,O.o⟩
  ·have aO:(more==([]:List UInt8))=false:=by simp[hq]
   have al:Hid (Af more=[111,107,32]++more):=κ (if_neg hq);clear hq
   go_wp2_with ((go_at_call 162;(go_call ae.o as e d ⟨rfl,I,H⟩;have J:=κ (ad.o d H);have an:=qd J.o 0;have Y:=β0 J.o;have O:=κ (af.o d (.string ⟨([111,107,32]++more).toArray⟩) I H);clear I H)))
   refine leaves_cons (f:=158) (args:= #[γ w.heap.size]) η (by simp[go_sem]) ?_;refine(kZ ⟨w.heap.size,0,none⟩ _).mono ?_;rintro e au w'' ⟨rfl,rfl,rfl⟩;have U: ∀v,(d.setCell ⟨w.heap.size,0,none⟩ v).cell? ⟨w.heap.size,0,none⟩=some v:=λv=>World.cell?_setCell_same' _ _ v (by rw[Y];rfl)
   rw[al.o];simp[Leaves,settle,results,results101,go_sem,U];exact O.o
 | some s=>
  obtain⟨R,aN,aB⟩:=aw.o.room;have aR:=β0 aB;clear aN aB;by_cases hq:more=[]
  ·subst hq
   go_wp2_with ((go_at_call 162;(go_call ae.o as e d ⟨rfl,I,H⟩;have J:=κ (ad.o d H);have an:=qd J.o 0;have Y:=β0 J.o;have O:=κ (af.o d (.string ⟨#[111,107]⟩) I H);clear I H)))
   refine leaves_cons (f:=158) (args:= #[γ w.heap.size]) η (by simp[go_sem]) ?_;refine(kZ ⟨w.heap.size,0,none⟩ _).mono ?_;rintro e au w'' ⟨rfl,rfl,rfl⟩;have U: ∀v,(d.setCell ⟨w.heap.size,0,none⟩ v).cell? ⟨w.heap.size,0,none⟩=some v:=λv=>World.cell?_setCell_same' _ _ v (by rw[Y];rfl)
   simp[Leaves,settle,results,results101,go_sem,U];exact⟨by rfl,O.o⟩
  ·have aO:(more==([]:List UInt8))=false:=by simp[hq]
   have al:Hid (Af more=[111,107,32]++more):=κ (if_neg hq);clear hq
   go_wp2_with ((go_at_call 162;(go_call ae.o as e d ⟨rfl,I,H⟩;have J:=κ (ad.o d H);have an:=qd J.o 0;have Y:=β0 J.o;have O:=κ (af.o d (.string ⟨([111,107,32]++more).toArray⟩) I H);clear I H)))
   refine leaves_cons (f:=158) (args:= #[γ w.heap.size]) η (by simp[go_sem]) ?_;refine(kZ ⟨w.heap.size,0,none⟩ _).mono ?_;rintro e au w'' ⟨rfl,rfl,rfl⟩;have U: ∀v,(d.setCell ⟨w.heap.size,0,none⟩ v).cell? ⟨w.heap.size,0,none⟩=some v:=λv=>World.cell?_setCell_same' _ _ v (by rw[Y];rfl)
   rw[al.o];simp[Leaves,settle,results,results101,go_sem,U];exact O.o
def pkT:Pk:=⟨false,96,1,9,7,[],false,0,[],[16,0]⟩
def pkU:List Int:=[128,96,0,1,0,0,0,9,0,0,0,7,16,0]
theorem tpB:pkB pkT=pkU:=by decide
def cfT:CfR:=⟨2,2,1,1,2,1⟩
def tp0:RmS:=wu cfT
def tp1:RmS:=(tp0.publish 0 7 8 9).1
def tp2:RmS:=(tp1.join 0 50 5 100).1
def tp3:RmS:=(tp2.subscribe 0 0 0).1
def tp4:RmS:=(tp3.arrive pkU).1
def wkT:List Og:=[(0,0),(1,0),(2,0),(3,0),(4,0)]
def tpP (j:Nat):RmS:=(wkT.take j).foldl (λs w=>(s.pick w true).1) tp4
def tp5:RmS:=tpP 5
theorem tq1:(tp0.publish 0 7 8 9).2=0:=by kernel_rfl
theorem tq2:(tp1.join 0 50 5 100).2=0:=by kernel_rfl
theorem tq3:(tp2.subscribe 0 0 0).2=0:=by kernel_rfl
theorem tq4:(tp3.arrive pkU).2=0:=by kernel_rfl
theorem tq5:tp4.workers=wkT:=by kernel_rfl
theorem tq6: ∀j<5,(tpP j).may (wkT.getD j (0,0))=true:=by decide+kernel
theorem tq7:(tp5.ln 0).W=[(0,[128,96,0,5,0,0,0,100,0,0,0,50,16,0])]:=by kernel_rfl
theorem RmR.away {G w w':World} {R:Nat} {s s':RmS} {F:List Nat} (h:RmR G w R s F) (H:RmR G w' R s' F) (t:qt F w w'):qg (λb=>G.heap.size<=b/\b∉F) w w':=by
 have m:=h.more;have d:=H.more;refine⟨d.os.trans m.os.symm,d.tape.trans m.tape.symm,d.output.trans m.output.symm,t.1,λb J I=> ?_⟩;by_cases e:b<G.heap.size
 ·rw[d.block b e,m.block b e]
 ·exact t.2 b (Classical.byContradiction λc=>I ⟨τ,c⟩)
theorem Pl.step {G w w':World} {pb R:Nat} {s s':RmS} {F:List Nat} (h:Pl G pb (some s) F w) (d:w.heap[pb]? =some (.cells #[γ R] 214 (0,0))) (H:RmR G w' R s' F) (t:qt F w w'):Pl G pb (some s') F w'/\jV pb F w w':=
 ⟨⟨h.1,λb d=>⟨(h.2.1 b d).1,Nat.lt_of_lt_of_le (h.2.1 b d).2 t.1⟩,H.more,R,H,t.blk h.1 d⟩,t.1,λb d _=>t.2 b d⟩
theorem tk0:qX 0 tp0:=Gj (c:=cfT) rfl
theorem tk2:qX 2 tp2:=(tk0.publish 0 7 8 9 ζ).join 0 50 5 100
theorem tk4:qX 4 tp4:=(tk2.subscribe 0 0 0).arrive (b:=pkU) (Byt.of_all ζ) ζ
theorem te1:tp0.publish 0 7 8 9=(tp1,0):=Prod.ext rfl tq1
theorem te2:tp1.join 0 50 5 100=(tp2,0):=Prod.ext rfl tq2
theorem te3:tp2.subscribe 0 0 0=(tp3,0):=Prod.ext rfl tq3
theorem te4:tp3.arrive pkU=(tp4,0):=Prod.ext rfl tq4
theorem do1 {G w:World} {pb g cap:Nat} {F:List Nat} (h:Pl G pb (some tp0) F w) (d:g∈F) (ai:g≠pb) (H: ∀i y,([0,7,8,9]:List Int)[i]? =some y->w.cell? ⟨g,i,none⟩=some (ι y)):
  Calls prog 162 #[γ pb,.string ⟨#[112,117,98,108,105,115,104]⟩,δ (some ⟨g,0,none⟩) 4 cap] w λe w'=>e= .returned (.string ⟨#[]⟩)/\Pl G pb (some tp1) F w'/\jV pb F w w':=by
 obtain⟨R,aa,N⟩:=h.room;have ac:=κ h;have I:=κ aa;have ab:=κ N;have ah:w.cell? ⟨pb,0,none⟩=some (π (some ⟨R,0,none⟩)):=qb N 0 rfl;have ad: ∀x:qu (λb=>G.heap.size<=b/\b∉F) w,x.w'.cell? ⟨g,0,none⟩=some (ι 0):=λx=>x.cell (h.lt g d) (λc=>c.2 d) (H 0 _ rfl)
 have ae: ∀x:qu (λb=>G.heap.size<=b/\b∉F) w,x.w'.cell? ⟨g,1,none⟩=some (ι 7):=λx=>x.cell (h.lt g d) (λc=>c.2 d) (H 1 _ rfl)
 have af: ∀x:qu (λb=>G.heap.size<=b/\b∉F) w,x.w'.cell? ⟨g,2,none⟩=some (ι 8):=λx=>x.cell (h.lt g d) (λc=>c.2 d) (H 2 _ rfl)
 have ag: ∀x:qu (λb=>G.heap.size<=b/\b∉F) w,x.w'.cell? ⟨g,3,none⟩=some (ι 9):=λx=>x.cell (h.lt g d) (λc=>c.2 d) (H 3 _ rfl)
 clear h aa N H
 go_enter func162,ntmps162
 go_upto_region 8 with fail
 refine QN (λb=>G.heap.size<=b/\b∉F) w 19 19 [17] ?_
 refine Ow ?_
 (refine Ql ?_;intro K O)
 go_call NR (I.o.on (qa.drewN w 1)) rfl 0 7 8 9 te1 as e w5 ⟨rfl,J,t5⟩;have U:Hid (qg (λb=>G.heap.size<=b/\b∉F) w w5):=κ (((qg.refl _ w).drewN 1).trans ((I.o.on (qa.drewN w 1)).away J t5));refine⟨_,rfl,qi U.o,O _ _ ?_⟩;clear O K
 iterate 1 (refine qD rfl rfl (qi U.o) ?_;intro K O;go_big_quiet_op;go_big_quiet_on)
 refine qv ?_;have Y:=κ (ac.o.step ab.o J (qt.trans (I.o.stay (qa.drewN w 1)) t5));clear J t5;go_wp2;go_ret;exact⟨rfl,Y.o.1,Y.o.2⟩
theorem do2 {G w:World} {pb g cap:Nat} {F:List Nat} (h:Pl G pb (some tp1) F w) (d:g∈F) (ai:g≠pb) (H: ∀i y,([0,50,5,100]:List Int)[i]? =some y->w.cell? ⟨g,i,none⟩=some (ι y)):
  Calls prog 162 #[γ pb,.string ⟨#[106,111,105,110]⟩,δ (some ⟨g,0,none⟩) 4 cap] w λe w'=>e= .returned (.string ⟨#[]⟩)/\Pl G pb (some tp2) F w'/\jV pb F w w':=by
 obtain⟨R,aa,N⟩:=h.room;have ac:=κ h;have I:=κ aa;have ab:=κ N;have ah:w.cell? ⟨pb,0,none⟩=some (π (some ⟨R,0,none⟩)):=qb N 0 rfl;have ad: ∀x:qu (λb=>G.heap.size<=b/\b∉F) w,x.w'.cell? ⟨g,0,none⟩=some (ι 0):=λx=>x.cell (h.lt g d) (λc=>c.2 d) (H 0 _ rfl)
 have ae: ∀x:qu (λb=>G.heap.size<=b/\b∉F) w,x.w'.cell? ⟨g,1,none⟩=some (ι 50):=λx=>x.cell (h.lt g d) (λc=>c.2 d) (H 1 _ rfl)
 have af: ∀x:qu (λb=>G.heap.size<=b/\b∉F) w,x.w'.cell? ⟨g,2,none⟩=some (ι 5):=λx=>x.cell (h.lt g d) (λc=>c.2 d) (H 2 _ rfl)
 have ag: ∀x:qu (λb=>G.heap.size<=b/\b∉F) w,x.w'.cell? ⟨g,3,none⟩=some (ι 100):=λx=>x.cell (h.lt g d) (λc=>c.2 d) (H 3 _ rfl)
 clear h aa N H
 go_enter func162,ntmps162
 go_upto_region 10 with fail
 refine QN (λb=>G.heap.size<=b/\b∉F) w 18 18 [16] ?_
 refine Ox ?_
 (refine Ql ?_;intro K O)
 go_call MR (I.o.on (qa.drewN w 1)) rfl 0 50 5 100 ⟨ζ,ζ⟩ ⟨ζ,ζ⟩ te2 as e w5 ⟨rfl,J,t5⟩;have U:Hid (qg (λb=>G.heap.size<=b/\b∉F) w w5):=κ (((qg.refl _ w).drewN 1).trans ((I.o.on (qa.drewN w 1)).away J t5));refine⟨_,rfl,qi U.o,O _ _ ?_⟩;clear O K
 iterate 1 (refine qD rfl rfl (qi U.o) ?_;intro K O;go_big_quiet_op;go_big_quiet_on)
 refine qv ?_;have Y:=κ (ac.o.step ab.o J (qt.trans (I.o.stay (qa.drewN w 1)) t5));clear J t5;go_wp2;go_ret;exact⟨rfl,Y.o.1,Y.o.2⟩
theorem do3 {d w:World} {pb g cap:Nat} {F:List Nat} (h:Pl d pb (some tp2) F w) (G:g∈F) (ah:g≠pb) (H: ∀i y,([0,0,0]:List Int)[i]? =some y->w.cell? ⟨g,i,none⟩=some (ι y)):
  Calls prog 162 #[γ pb,.string ⟨#[116,97,107,101]⟩,δ (some ⟨g,0,none⟩) 3 cap] w λe w'=>e= .returned (.string ⟨#[]⟩)/\Pl d pb (some tp3) F w'/\jV pb F w w':=by
 obtain⟨R,aa,N⟩:=h.room;have ac:=κ h;have I:=κ aa;have ab:=κ N;have ag:w.cell? ⟨pb,0,none⟩=some (π (some ⟨R,0,none⟩)):=qb N 0 rfl;have ad: ∀x:qu (λb=>d.heap.size<=b/\b∉F) w,x.w'.cell? ⟨g,0,none⟩=some (ι 0):=λx=>x.cell (h.lt g G) (λc=>c.2 G) (H 0 _ rfl)
 have ae: ∀x:qu (λb=>d.heap.size<=b/\b∉F) w,x.w'.cell? ⟨g,1,none⟩=some (ι 0):=λx=>x.cell (h.lt g G) (λc=>c.2 G) (H 1 _ rfl)
 have af: ∀x:qu (λb=>d.heap.size<=b/\b∉F) w,x.w'.cell? ⟨g,2,none⟩=some (ι 0):=λx=>x.cell (h.lt g G) (λc=>c.2 G) (H 2 _ rfl)
 clear h aa N H
 go_enter func162,ntmps162
 go_upto_region 12 with fail
 refine QN (λb=>d.heap.size<=b/\b∉F) w 12 12 [10] ?_
 refine ED ?_
 (refine Ql ?_;intro K O)
 go_call Mv (I.o.on (qa.drewN w 1)) tk2 ζ 0 0 0 te3 as e w5 ⟨rfl,J,t5⟩;have U:Hid (qg (λb=>d.heap.size<=b/\b∉F) w w5):=κ (((qg.refl _ w).drewN 1).trans ((I.o.on (qa.drewN w 1)).away J t5));refine⟨_,rfl,qi U.o,O _ _ ?_⟩;clear O K
 iterate 1 (refine qD rfl rfl (qi U.o) ?_;intro K O;go_big_quiet_op;go_big_quiet_on)
 refine qv ?_;have Y:=κ (ac.o.step ab.o J (qt.trans (I.o.stay (qa.drewN w 1)) t5));clear J t5;go_wp2;go_ret;exact⟨rfl,Y.o.1,Y.o.2⟩
theorem MK (w:World):Calls prog 9 #[θ #[ι 2,ι 2,ι 1,ι 1,ι 2,ι 1]] w λe w'=> ∃R,e= .returned (.tuple #[γ R,ι 0])/\RmR w w' R tp0 []/\qa w w':=Ab cfT rfl w
theorem FS {Y w:World} {pb g cap:Nat} {F:List Nat} (h:Pl Y pb none F w) (af:g∈F) (ao:g≠pb) (I: ∀i y,([2,2,1,1,2,1]:List Int)[i]? =some y->w.cell? ⟨g,i,none⟩=some (ι y)):
  Calls prog 215 #[γ pb,δ (some ⟨g,0,none⟩) 6 cap] w λe w'=>e= .returned (ι 0)/\Pl Y pb (some tp0) F w'/\jV pb F w w':=by
 have ac:w.heap[pb]? =some (.cells #[π none] 214 (0,0)):=h.2.2.2;have G:=κ h;have ae:=κ ac;have J:=h.lt g af;have ah: ∀x:qp w,x.w'.cell? ⟨g,0,none⟩=some (ι 2):=λx=>by rw[x.h.cells _ _ J];exact I 0 _ rfl
 have ai: ∀x:qp w,x.w'.cell? ⟨g,1,none⟩=some (ι 2):=λx=>by rw[x.h.cells _ _ J];exact I 1 _ rfl
 have aj: ∀x:qp w,x.w'.cell? ⟨g,2,none⟩=some (ι 1):=λx=>by rw[x.h.cells _ _ J];exact I 2 _ rfl
 have ak: ∀x:qp w,x.w'.cell? ⟨g,3,none⟩=some (ι 1):=λx=>by rw[x.h.cells _ _ J];exact I 3 _ rfl
 have al: ∀x:qp w,x.w'.cell? ⟨g,4,none⟩=some (ι 2):=λx=>by rw[x.h.cells _ _ J];exact I 4 _ rfl
 have am: ∀x:qp w,x.w'.cell? ⟨g,5,none⟩=some (ι 1):=λx=>by rw[x.h.cells _ _ J];exact I 5 _ rfl
 clear h ac I
 go_enter func215,ntmps215
 go_upto_region 1 with fail
 refine Qn w 26 26 [20] ?_
 refine Oz ?_
 (refine Ql ?_;intro K O)
 go_call MK _ as e w5 ⟨R,rfl,ab,ad⟩;have H:Hid (qa w w5):=κ (((qa.refl w).dr 1).trans ad);refine⟨_,rfl,qj H.o,O _ _ ?_⟩;clear O K
 iterate 5 (refine qD rfl rfl (qj H.o) ?_;intro K O;go_big_quiet_op;go_big_quiet_on)
 refine qv ?_;have aa:Hid (RmR Y w5 R tp0 F):=κ ((ab.based (Fn:=F) (G.o.2.2.1.dr 1) (λb d=>G.o.2.1 b d)).sub (λb d=>List.mem_append_left _ d));have N:=κ (qc H.o ae.o);have ap:=β0 N.o;have an:=qd N.o 0;clear ab ad;go_wp2;go_ret;have a:qg (λb=>b∈[pb]) w5 (w5.setCell ⟨pb,0,none⟩ (γ R)):=(qg.refl _ _).set η _;have U:=G.o.1;refine⟨rfl,⟨U,λb d=>⟨(G.o.2.1 b d).1,Nat.lt_of_lt_of_le (G.o.2.1 b d).2 (Nat.le_trans H.o.size a.size)⟩,a.to_more aa.o.more (λb d=>by simp at d;subst d;exact(G.o.2.1 _ U).1),R,aa.o.mut (a.mono λb d=>by simp at d;subst d;exact U), ?_⟩,Nat.le_trans H.o.size a.size,λb d ag=> ?_⟩
 ·have e:=N.o;simp[World.setCell,Array.getElem?_modify,e]
 ·rw[a.block b (by have:=G.o.lt b d;have:=H.o.size;omega) (λe=>by simp at e;exact ag e),H.o.block b (G.o.lt b d)]
theorem do0 {I w:World} {pb g cap:Nat} {F:List Nat} (h:Pl I pb none F w) (U:g∈F) (Y:g≠pb) (H: ∀i y,([2,2,1,1,2,1]:List Int)[i]? =some y->w.cell? ⟨g,i,none⟩=some (ι y)):
  Calls prog 162 #[γ pb,.string ⟨#[114,111,111,109]⟩,δ (some ⟨g,0,none⟩) 6 cap] w λe w'=>e= .returned (.string ⟨#[]⟩)/\Pl I pb (some tp0) F w'/\jV pb F w w':=by
 have G:w.heap[pb]? =some (.cells #[π none] 214 (0,0)):=h.2.2.2;have aa:w.cell? ⟨pb,0,none⟩=some (π none):=qb G 0 rfl;have N:=κ (FS (cap:=cap) h U Y H);clear h G H
 go_enter func162,ntmps162
 go_wp2_with ((go_at_call 215;(go_call N.o as e w5 ⟨rfl,d,t5⟩;have J:=κ d;have O:=κ t5;clear d t5)))
 go_ret;exact⟨rfl,J.o,O.o⟩
theorem NP:wP pkT:=⟨ζ,ζ,ζ,ζ,λi=>by simp[U32,pkT],ζ,xf,Byt.of_all ζ⟩
theorem tkR:jM pkT=true:=by decide
theorem Lw (w:World) (v:Value) (I:SlI .u8 w v [16,0]):Calls prog 37 #[θ #[μ false,υ 96,φ 1,ω 9,ω 7,(),false,φ 0,(),v]] w λe w'=>(∃v,e= .returned (.tuple #[v,ι 0])/\SlI .u8 w' v pkU)/\qa w w':=
 (XT pkT _ _ _ _ ⟨SlI.nil _ _,SlI.nil _ _,I⟩ NP tkR).mono λe w' ⟨⟨v,G,d⟩,H⟩=>⟨⟨v,G,by rw[tpB] at d;exact SlI.of_owns d ζ⟩,H⟩
theorem Fv {w:World} {g cap:Nat} {v:Value} (U:g<w.heap.size) (I: ∀i y,([7,1,9]:List Int)[i]? =some y->w.cell? ⟨g,i,none⟩=some (ι y)) (Y:SlI .u8 w v [16,0]):
  Calls prog 216 #[δ (some ⟨g,0,none⟩) 3 cap,v] w λe w'=>(∃v',e= .returned v'/\SlI .u8 w' v' pkU)/\qa w w':=by
 have ac: ∀x:qp w,x.w'.cell? ⟨g,0,none⟩=some (ι 7):=λx=>by rw[x.h.cells _ _ U];exact I 0 _ rfl
 have ad: ∀x:qp w,x.w'.cell? ⟨g,1,none⟩=some (ι 1):=λx=>by rw[x.h.cells _ _ U];exact I 1 _ rfl
 have ae: ∀x:qp w,x.w'.cell? ⟨g,2,none⟩=some (ι 9):=λx=>by rw[x.h.cells _ _ U];exact I 2 _ rfl
 have ag:=κ Y;obtain⟨am,ak,rfl,_⟩:=id Y;clear I Y
 go_enter func216,ntmps216
 go_upto_region 1 with fail
 refine Qn w 14 15 [13,14] ?_
 refine OA ?_
 (refine Ql ?_;intro K G)
 have J:Hid (((w.drewN 1).alloc (.cells #[μ false,υ 0,φ 0,ω 0,ω 0] 60)).heap[w.heap.size]? =some (.cells #[μ false,υ 0,φ 0,ω 0,ω 0] 60 (0,0))):=κ (qk (w.drewN 1) _);have N:Hid (qa w ((w.drewN 1).alloc (.cells #[μ false,υ 0,φ 0,ω 0,ω 0] 60))):=κ (((qa.refl w).dr 1).al _);refine⟨qj N.o,G _ _ ?_⟩;clear G K ac ad ae;refine jJ rfl rfl ?_;intro K G;refine jZ 60 (.tmp 5) (.tmp 20) rfl w.heap.size 60 _ #[μ false,υ 96,φ 1,ω 9,ω 7] J.o rfl rfl ξ rfl (by simp[Value.oneCell']) ?_;have H:=κ (N.o.row (Nat.le_refl _) #[μ false,υ 96,φ 1,ω 9,ω 7]);have d:=κ (jK J.o #[μ false,υ 96,φ 1,ω 9,ω 7]);refine⟨qj H.o,G _ _ ?_⟩;clear G K;refine qv ?_;obtain⟨aj,O⟩:=ν (((w.drewN 1).alloc (.cells #[μ false,υ 0,φ 0,ω 0,ω 0] 60)).setRow w.heap.size #[μ false,υ 96,φ 1,ω 9,ω 7]);rw[O] at H d
 (try rw[O])
 clear O J N;have an:=β0 d.o;have ao:=β1 d.o;have ap:=β2 d.o;have aq:=β3 d.o;have ar:=β4 d.o;have af:=κ (Lw aj (δ am 2 ak) (ag.o.keep H.o))
 go_wp2_with ((go_at_call 37;(go_call af.o as e w5 ⟨⟨v5,rfl,ab⟩,aa⟩;have ai:=κ ab;have ah:=κ (H.o.trans aa);clear ab aa)))
 go_ret;exact⟨⟨_,rfl,ai.o⟩,ah.o⟩
theorem do4 {ad w:World} {pb g cap:Nat} {F:List Nat} (h:Pl ad pb (some tp3) F w) (ak:g∈F) (an:g≠pb) (U: ∀i y,([7,1,9]:List Int)[i]? =some y->w.cell? ⟨g,i,none⟩=some (ι y)):
  Calls prog 162 #[γ pb,.string ⟨#[107,101,121]⟩,δ (some ⟨g,0,none⟩) 3 cap] w λe w'=>e= .returned (.string ⟨#[]⟩)/\Pl ad pb (some tp4) F w'/\jV pb F w w':=by
 obtain⟨R,O,G⟩:=h.room;have am:w.cell? ⟨pb,0,none⟩=some (π (some ⟨R,0,none⟩)):=qb G 0 rfl;have ah:=κ h;have H:=κ O;have af:=κ G;have Y:=h.lt g ak;have d:=κ (qa.alloc w (.cells #[υ 16,υ 0] 5));have aj:=κ (SlI.lit .u8 w [16,0] 5 #[υ 16,υ 0] 2 w.heap.size rfl rfl rfl η);have ag:=κ (Fv (cap:=cap) (Nat.lt_of_lt_of_le Y d.o.size) (λi y al=>by rw[d.o.cells _ _ Y];exact U i y al) aj.o);clear h O G U
 go_enter func162,ntmps162
 go_wp2_with (first | (go_at_call 216;(go_call ag.o as e w5 ⟨⟨v5,rfl,ab⟩,aa⟩;have ai:=κ ab;have J:=κ (d.o.trans aa);have ae:=κ (H.o.on J.o);clear ab aa)) | (go_at_call 33;(go_call Ol ae.o pkU v5 ai.o (Byt.of_all ζ) ζ (by decide+kernel) te4 as e w6 ⟨rfl,N,ac⟩;have I:=κ (ah.o.step af.o N ((H.o.stay J.o).trans ac));clear N ac)))
 go_ret;exact⟨rfl,I.o.1,I.o.2⟩
section
open Go.Shelf Go.RowKit
def Kw:Go.Shelf.Ren:=⟨fun | 146=>98 | 221=>156 | 268=>209 | 138=>210 | 143=>211 | 195=>261 | 197=>262 | 218=>263 | 219=>264 | 260=>290 | 217=>291 | 225=>292 | 224=>293 | 267=>294 | 266=>319 | 314=>320 | n=>n,fun | 9=>9 | 31=>215 | 3=>3 | 4=>4 | 0=>0 | 105=>435 | 21=>21 | 5=>5 | 46=>335 | 119=>486 | 139=>489 | 138=>488 | 146=>490 | 51=>38 | n=>n,fun | 1=>0 | 3=>1 | 4=>2 | n=>n⟩
theorem lays146:Go.Proofs.LaysM.n146 prog Kw:=by
 constructor
 all_goals first | kernel_rfl | (intro w;rfl) | (constructor<;>first | kernel_rfl | (intro w;rfl)) | exact λw h=>Go.Proofs.cell_of_shapedOpen_int (zero:= #[ι 0]) (t:=3) h (of_decide_eq_true ξ) ξ rfl ξ ξ underlying3
def Ji:Go.Shelf.Ren:=⟨fun | 156=>299 | 165=>325 | 166=>100 | 169=>103 | 240=>157 | 241=>335 | 276=>212 | 277=>336 | n=>n,fun | 31=>215 | 9=>9 | 3=>3 | 4=>4 | 0=>0 | 20=>20 | 72=>212 | 76=>220 | 70=>210 | 37=>35 | 75=>219 | 127=>321 | 164=>392 | 5=>5 | 80=>224 | n=>n,fun | n=>n⟩
theorem JJ:Go.Proofs.Lays.n156 prog Ji:=by
 constructor
 all_goals first | kernel_rfl | (intro w;rfl)
def Kv:Go.Shelf.Ren:=⟨fun | 171=>159 | 243=>213 | 246=>265 | 283=>295 | 284=>296 | 285=>297 | 286=>298 | 129=>230 | 317=>321 | 318=>322 | 319=>323 | 320=>324 | 337=>333 | 338=>334 | n=>n,fun | 3=>3 | 9=>9 | 2=>2 | 4=>4 | 171=>463 | 0=>0 | 53=>231 | 37=>35 | 5=>5 | 173=>465 | 212=>493 | 51=>38 | 20=>20 | 213=>494 | 46=>335 | 232=>503 | 233=>504 | n=>n,fun | 17=>3 | 18=>4 | 19=>5 | n=>n⟩
theorem FC:Go.Proofs.LaysM.n171 prog Kv:=by
 constructor
 all_goals first | kernel_rfl | (intro w;rfl) | (constructor<;>first | kernel_rfl | (intro w;rfl))
def Zg:Nat:=0
def uj:String:=(Rows.topEndsRow.laid.map Prod.fst).getD 2 default
theorem bldX:Builder.Extra prog Ji:={sizeBuilder:=by kernel_rfl,liesBuilder:=by kernel_rfl,t5:=underlying5,a5:=isAgg5,z5:=sizeOf5,v5:=zeroValue5,infoByte:=by kernel_rfl,cellsByte:=by kernel_rfl,sizeByte:=by kernel_rfl,neB5:=by decide}
theorem AH (s d:ByteArray) {G:Int} (w:World) (J:s.size<4294967281) (I:w.cell? ⟨Zg,0,none⟩=some (ι G)) (H:1<=d.size):
  Calls prog 98 #[.string s,.string d] w λe w'=>e= .returned (δ (some ⟨w.heap.size,0,none⟩) (Lib.countB s d+1) (Lib.countB s d+1))/\w'=w.alloc (.cells ((Lib.splitB d 0 (Lib.countB s d) s).map Value.string).toArray 9):=
 Any.strings_Split {lays146 with} ξ s d G w J I H
theorem PK (w:World) (k:Nat) (os:Array Obj):qa w (Go.Sort.grow (w.drewN k) os):=⟨rfl,rfl,rfl,by simp[Go.Sort.grow,World.drewN],λb d=>by show (w.heap++os)[b]? =_;exact Array.getElem?_append_left d⟩
theorem Il (n:Int) (h:0<=n/\n<=1000000000000) (w:World) (d:Lib.TabIs prog w uj .u64 Lib.pow10Tab):
  Calls prog 159 #[ι n] w λe w'=>e= .returned (.string ⟨(Lib.itoa n).toArray⟩)/\qa w w':=by
 refine(Any.strconv_Itoa FC n τ τ w d).mono ?_;rintro e w' ⟨rfl,k,os,rfl⟩;exact⟨rfl,PK w k os⟩
theorem Ik (d o c:Nat) (xs:List ByteArray) (G:ByteArray) (w:World) (J: ∀(j:Nat) x,xs[j]? =some x->w.cell? ⟨d,o+j,none⟩=some (.string x)) (I:d<w.heap.size) (U:xs.length<=1000) (N:xs.length<=c) {r:List UInt8} (H:Lib.join (xs.map (·.data.toList)) G.data.toList=r) (O:r.length<=1000):
  Calls prog 299 #[δ (some ⟨d,o,none⟩) xs.length c,.string G] w λe w'=>e= .returned (.string ⟨r.toArray⟩)/\qa w w':=by
 have h:=Any.strings_Join {JJ with} bldX d o c xs G w J I τ N (by rw[H];omega);rw[H] at h;exact h
theorem F8 (B b:Nat) (l:List UInt8) (w:World) (h:Lib.IsBuilder 212 5 B b (Lib.byteCells l) w) (d:B<=w.heap.size):
  Calls prog 103 #[γ b] w λe w'=>e= .returned (.string ⟨l.toArray⟩)/\Below B w w':=
 Any.Builder_String_any {JJ with} bldX B b l w h d
end
theorem vt {w w':World} (h:Lib.TabIs prog w uj .u64 Lib.pow10Tab) (m:qa w w'):Lib.TabIs prog w' uj .u64 Lib.pow10Tab:=Joins.tab_stays (g:=3) ξ h m (Nat.le_refl _)
def itB (n:Int):ByteArray:=⟨(Lib.itoa n).toArray⟩
theorem qV.tx {w:World} {base:Nat} {D:Nat->Prop} {v:Value} {L:List ByteArray} (h:qV 1 RTx D w base 9 v L) (ab:0<L.length): ∃g cap,v= δ (some ⟨g,0,none⟩) L.length cap/\L.length<=cap/\g<w.heap.size/\ ∀(j:Nat) x,L[j]? =some x->w.cell? ⟨g,0+j,none⟩=some (.string x):=by
 have N:=h.sl ζ;obtain⟨⟨xs,U,r⟩,_⟩:=h;rcases id U.2 with ⟨rfl,Y⟩ | ⟨g,cap,cur,rfl,aa,I,H,ac,_⟩
 ·omega
 ·refine⟨g,cap,rfl,H,lt_of_block I,λj x O=> ?_⟩;obtain⟨J,e⟩:=List.getElem?_eq_some_iff.1 O;obtain⟨b,ad,d,G⟩:=N.strs (qa.refl _) j J;injection d with d
  injection d with e3 e4 _
  subst e3 e4;rw[G,e]
theorem US (af:ByteArray) (d:List Int) (g cap:Nat) (w:World) (aj: ∀i y,d[i]? =some y->w.cell? ⟨g,i,none⟩=some (ι y)) (O:g<w.heap.size) (aF:0<d.length) (aP:d.length<=20) (J: ∀n∈d,0<=n/\n<=1000000000000) (an:Lib.TabIs prog w uj .u64 Lib.pow10Tab)
  {r:List UInt8} (am:Lib.join (d.map Lib.itoa) af.data.toList=r) (aE:r.length<=1000):
  Calls prog 268 #[.string af,δ (some ⟨g,0,none⟩) d.length cap] w λe w'=>e= .returned (.string ⟨r.toArray⟩)/\qa w w':=by
 obtain⟨aL,hi,aG,aH,aI⟩:=info_parts (P:=prog) (e:=9) (z:= .string ByteArray.empty) (size:=1) (bytes:=16) ξ;have aw:=κ (λw' (m:qa w w')=>vt an m);have ao:Hid (∀wr,qa w wr-> ∀i (hi:i<d.length),wr.cell? ⟨g,i,none⟩=some (ι d[i])):=κ (λwr m i hi=>by rw[m.cells _ _ O];exact aj i _ (List.getElem?_eq_getElem hi));have au:Hid (∀i (hi:i<d.length),0<=d[i]/\d[i]<=1000000000000):=κ (λi hi=>J _ (List.getElem_mem hi));have ar:=κ am;clear aj J an am
 go_enter func268,ntmps268
 go_wp2
 go_loopw [5,10] (λu ac wr=> ∃i:Nat,i<=d.length/\ac= ι i/\(∃ae ad Y,u= δ ae ad Y)/\qV 1 RTx (λ_=>False) wr w.heap.size 9 u ((d.take i).map itB)/\qa w wr) (λ_ ac _=>d.length-(intOf ac).toNat)
 case atStart=>exact⟨0,τ,rfl,⟨_,_,_,rfl⟩,qV.nil _ _ _ _ _ _,qa.refl _⟩
 case round=>
  obtain⟨i,aQ,rfl,⟨ae,ad,Y,rfl⟩,J,ak⟩:=hrel;have U:=κ J;have N:=κ ak;clear J ak;by_cases hlt:i<d.length
  ·have aD:(i:Int)<(d.length:Int):=by omega
   have aN:=ao.o wr N.o i hlt;have aq:=κ (Il d[i] (au.o i hlt) wr (aw.o wr N.o));have ax:Hid ((d.take (i+1)).map itB=(d.take i).map itB++[itB d[i]]):=κ (by rw[List.take_succ_eq_append_getElem hlt,List.map_append];rfl);have aR:((d.take i).map itB).length<=20:=by rw[List.length_map,List.length_take];omega
   generalize d[i]=y at *;generalize (d.take i).map itB=fl at *;have ap:Hid (∀b,(δ ae ad Y).ownBlock=some b->w.heap.size<=b):=κ (λb h=>U.o.ge h)
   go_wp2_with (first | (go_at_call 159;(go_call aq.o as e w5 ⟨rfl,H⟩;have I:=κ (N.o.trans H);have ay:=κ ((U.o.on H).on (qa.alloc w5 (.cells #[.string (itB y)] 9)));clear H)) | (at_builtin;(refine jj (R:=RTx) (D:=λ_=>False) _ rfl (.tmp 14) (.tmp 17) 215 rfl w.heap.size 9 aL (.string ByteArray.empty) 1 16 underlying215 hi aG aH aI rfl ζ _ fl rfl ay.o w5.heap.size [.string (itB y)] (itB y) rfl rfl (xO (by simp[itB])) (by simp[Value.oneCell']) (λw' _=>rfl) (λb h=>h.elim) ζ τ (I.o.al _).size ?_;intro v' w8 G O aC;have aM:Hid (qa w w8):=κ (Below.grown (I.o.al _) O (I.o.al _).size ap.o);obtain⟨aT,aS,aO,rfl,aJ,aK⟩:=G.shape;have az:=κ G;clear G O aC aJ aK)))
   go_roundw
   case rel=>exact⟨i+1,τ,by go_num,⟨_,_,_,rfl⟩,by rw[ax.o];exact az.o,aM.o⟩
   case measure=>simp[intOf];omega
  ·obtain rfl:i=d.length:=by omega
   have aD: ¬(d.length:Int)<(d.length:Int):=by omega
   have G:=U.o;rw[List.take_length] at G;obtain⟨aB,aA,aa,ag,ah,ai⟩:=G.tx (by rw[List.length_map];exact aF);have ab:=Ik aB 0 aA (d.map itB) af wr ai ah (by rw[List.length_map];omega) ag (r:=r) (by rw[<-ar.o,List.map_map];rfl) aE;rw[List.length_map] at ab aa;have av:=κ ab;clear ab;rw[aa];clear G aa ag ah ai
   go_wp2_with ((go_at_call 299;(go_call av.o as e w5 ⟨rfl,H⟩;have I:=κ (N.o.trans H);clear H)))
   go_ret;exact⟨rfl,I.o⟩
theorem CA (x:ByteArray) (g cap:Nat) (w:World) (d:w.cell? ⟨g,0,none⟩=some (.string x)) (U:g<w.heap.size) (O:1<=cap) (Y:x.data.toList.length<=1000):
  Calls prog 300 #[δ (some ⟨g,0,none⟩) 1 cap] w λe w'=>e= .returned (.string x)/\qa w w':=by
 have G:(⟨x.data.toList.toArray⟩:ByteArray)=x:=by simp
 have J:Hid (Calls prog 299 #[δ (some ⟨g,0,none⟩) 1 cap,.string ⟨#[32]⟩] w λe w'=>e= .returned (.string x)/\qa w w'):=κ (by
  have h:=Ik g 0 cap [x] ⟨#[32]⟩ w (λj y H=>by
   have:j=0:=by
    have:=(List.getElem?_eq_some_iff.1 H).1;simp at this;exact this
   subst this;have:x=y:=by simpa using H
   subst this
   exact d) U η O (r:=x.data.toList) (Lib.join_one _ _) Y
  rw[G] at h
  exact h)
 clear d G
 go_enter func300,ntmps300
 go_wp2_with ((go_at_call 299;(go_call J.o as e w5 ⟨rfl,I⟩;have N:=κ I;clear I)))
 go_ret;exact⟨rfl,N.o⟩
theorem Vr (j:Nat) (h:j<5):tpP (j+1)=((tpP j).pick (wkT.getD j (0,0)) true).1:=by
 match j,h with
 | 0,_=>rfl
 | 1,_=>rfl
 | 2,_=>rfl
 | 3,_=>rfl
 | 4,_=>rfl
theorem Bg {j:Nat} (h:j<5):(tpP j).pick ((wkT.getD j (0,0)).1,(wkT.getD j (0,0)).2) true=(tpP (j+1),true):=by
 refine Prod.ext (Vr j h).symm ?_;have:=tq6 j h;unfold RmS.pick;rw[if_pos this]
theorem tkP (j:Nat) (d:j<=5):qX (4+j) (tpP j):=by
 induction j with
 | zero=>exact tk4
 | succ j ih=>
  rw[Vr j τ];exact(ih τ).pick _ _
theorem ID {H w:World} {pb:Nat} {F:List Nat} (h:Pl H pb (some tp4) F w):
  Calls prog 267 #[γ pb,ι 1] w λe w'=>e= .returned (ι 5)/\Pl H pb (some tp5) F w'/\jV pb F w w':=by
 have J:=κ h;clear h
 go_enter func267,ntmps267
 go_wp2
 go_loopw [5,9] (λu I wr=>(I= ι 0/\u= ι 0/\w=wr)∨(I= ι 1/\u= ι 5/\Pl H pb (some tp5) F wr/\jV pb F w wr)) (λ_ I _=>1-(intOf I).toNat)
 case atStart=>exact Or.inl ⟨rfl,rfl,rfl⟩
 case round=>
  rcases hrel with ⟨rfl,rfl,rfl⟩ | ⟨rfl,rfl,N,t5⟩
  ·obtain⟨R,ay,av⟩:=J.o.room;have Y:w.cell? ⟨pb,0,none⟩=some (π (some ⟨R,0,none⟩)):=qb av 0 rfl;have ag:=κ (Qy ay);rw[tq5] at ag;clear ay av
   go_wp2_with ((go_at_call 26;(go_call ag.o as e w8 ⟨aV,rfl,al,aD⟩;obtain⟨aU,cap,rfl,aC⟩:=WC al;have ah:=κ aC;have ai:=κ al;have ar:=κ aD;clear al aC aD)))
   obtain⟨d,rfl,_,_⟩:=ah.o.2 _ (qa.refl _) 0 ζ;have aA:w.heap.size<=d:=ai.o.ge rfl;have aT:d<w8.heap.size:=ai.o.lt rfl
   have ap:Hid (∀j (ac:j<5),w8.cell? ⟨d,j* 2,none⟩=some (ι (wkT.getD j (0,0)).1)/\w8.cell? ⟨d,j* 2+1,none⟩=some (ι (wkT.getD j (0,0)).2)):=κ (λj ac=>by
    obtain⟨b,e,aP,aQ⟩:=ah.o.2 _ (qa.refl _) j ac;injection e with e
    injection e with e _ _
    subst e;have e:wkT.getD j (0,0)=wkT[j]:=by rw[List.getD_eq_getElem?_getD,List.getElem?_eq_getElem ac];rfl
    rw[e]
    exact⟨aP,aQ⟩)
   have an:Hid (Pl H pb (some tp4) ([d]++F) w8):=κ (J.o.adds ar.o (λb G=>by simp at G;subst G;exact⟨aA,aT⟩));have aR:Hid (d≠pb):=κ (λe=>by have:=J.o.lt pb J.o.1;omega);have aN:=κ (J.o.stay ar.o);clear aA ah ai ag Y
   go_loopw [5,17] (λu I aF=> ∃j:Nat,j<=5/\I= ι j/\u= ι j/\Pl H pb (some (tpP j)) ([d]++F) aF/\jV pb ([d]++F) w8 aF) (λ_ I _=>5-(intOf I).toNat)
   case atStart=>exact⟨0,τ,rfl,rfl,an.o,jV.refl⟩
   case round=>
    obtain⟨j,ac,rfl,rfl,aB,aE⟩:=hrel;have aa:=κ aB;have aj:=κ aE;clear aB aE an;by_cases hlt:j<5
    ·have aS:(j:Int)<5:=by omega
     have am:=aj.o.2 d η aR.o;obtain⟨Y,c1⟩:=ap.o j hlt;rw[<-World.cell?_of_block am] at Y c1;have aq:=κ (Bg hlt);have aK:=κ (tkP j τ);have aJ:Hid (4+j<=1000):=κ τ;generalize wkT.getD j (0,0)=y at *;obtain⟨ad,ae⟩:=y;simp only at Y c1 aq;obtain⟨W1,ak⟩:=ν (wr.alloc (.cells #[ι ad,ι ae] 37));have au:Hid (qa wr W1):=κ (by rw[<-ak];exact qa.alloc _ _);have O:Hid (W1.heap[wr.heap.size]? =some (.cells #[ι ad,ι ae] 37 (0,0))):=κ (by rw[<-ak];exact qk wr _);have U:Hid (Pl H pb (some (tpP j)) ([wr.heap.size]++([d]++F)) W1):=κ (aa.o.adds au.o (λb G=>by simp at G;subst G;exact⟨Nat.le_refl _,ql O.o⟩));obtain⟨aM,az,aw⟩:=U.o.room;have af:=κ az;have ao:=κ aw;have aL: ∀x:qu (λb=>H.heap.size<=b/\b∉[wr.heap.size]++([d]++F)) W1,x.w'.cell? ⟨pb,0,none⟩=some (π (some ⟨aM,0,none⟩)):=λx=>x.cell (U.o.lt pb U.o.1) (λc=>c.2 U.o.1) (qb ao.o 0 rfl)
     have aH: ∀x:qu (λb=>H.heap.size<=b/\b∉[wr.heap.size]++([d]++F)) W1,x.w'.cell? ⟨wr.heap.size,0,none⟩=some (ι ad):=λx=>x.cell (ql O.o) (λc=>c.2 η) (qb O.o 0 rfl)
     have aI: ∀x:qu (λb=>H.heap.size<=b/\b∉[wr.heap.size]++([d]++F)) W1,x.w'.cell? ⟨wr.heap.size,1,none⟩=some (ι ae):=λx=>x.cell (ql O.o) (λc=>c.2 η) (qb O.o 1 rfl)
     clear az aw am ap
     go_upto_region 7 with fail
     clear ak Y c1;refine QN (λb=>H.heap.size<=b/\b∉[wr.heap.size]++([d]++F)) W1 6 6 [5] ?_
     refine Qs5 ?_
     clear aL aH aI
     (refine Ql ?_;intro K ax)
     go_call Hz (af.o.on (qa.drewN W1 1)) aK.o (Oe aJ.o) ad ae true aq.o as e w5 ⟨rfl,N,t5⟩;have aG:Hid (qg (λb=>H.heap.size<=b/\b∉[wr.heap.size]++([d]++F)) W1 w5):=κ (((qg.refl _ W1).drewN 1).trans ((af.o.on (qa.drewN W1 1)).away N t5));refine⟨_,rfl,qi aG.o,ax _ _ ?_⟩;clear ax K;refine qv ?_;have ab:=κ (U.o.step ao.o N (qt.trans (af.o.stay (qa.drewN W1 1)) t5));clear N t5;go_wp2;go_roundw
     case rel=>exact⟨j+1,τ,by go_num,by go_num,ab.o.1.sub (λb G=>List.mem_append_right _ G) aa.o.1,aj.o.trans ((aa.o.stay au.o).trans (ab.o.2.sub (λb G=>List.mem_append_right _ G)))⟩
     case measure=>simp[intOf];omega
    ·obtain rfl:j=5:=by omega
     have aS: ¬((5:Nat):Int)<5:=by omega
     go_wp2;go_roundw
     case rel=>exact Or.inr ⟨by go_num,by go_num,aa.o.sub (λb G=>List.mem_append_right _ G) J.o.1,aN.o.trans (aj.o.sub (λb G=>List.mem_append_right _ G))⟩
     case measure=>simp[intOf]
  ·have ab:=κ N;have aO:=κ t5;clear N t5;go_wp2;go_ret;exact⟨rfl,ab.o,aO.o⟩
def wrB:List Int:=[128,96,0,5,0,0,0,100,0,0,0,50,16,0]
theorem MT:Lib.itoa 5=[53]:=by simp[Lib.itoa,Lib.decDigits]
theorem NX:Lib.join ([0,5,100].map Lib.itoa) [58]=[48,58,53,58,49,48,48]:=by simp[Lib.itoa,Lib.decDigits,Lib.join,List.intercalate]
theorem rdT:xk wrB=(⟨false,96,5,100,50,[],false,0,[],[16,0]⟩,0):=by kernel_rfl
theorem Mx {w:World} {v:Value} (U:SlI .u8 w v wrB):Calls prog 16 #[v] w λe w'=> ∃I J N d G H,e= .returned (.tuple #[θ #[μ false,υ 96,φ 5,ω 100,ω 50,δ I 0 d,false,φ 0,δ J 0 G,δ N 2 H],ι 0])/\qa w w':=by
 refine(KF v wrB w U (Byt.of_all ζ) ζ).mono ?_;rintro e w' ⟨Y,vb,aa,O,ps,m⟩;rw[rdT] at O ps;obtain⟨⟨I,d,rfl,-⟩,⟨J,G,rfl,-⟩,⟨N,H,rfl,-⟩⟩:=ps;exact⟨I,J,N,d,G,H,O,m⟩
theorem NF {aa w:World} {R:Nat} {F:List Nat} (h:RmR aa w R tp5 F):Calls prog 14 #[γ R,ι 0] w λe w'=> ∃g cap b H d,e= .returned (δ (some ⟨g,0,none⟩) 1 cap)/\w'.cell? ⟨g,0,none⟩=some (ι 0)/\w'.cell? ⟨g,1,none⟩=some (δ (some ⟨b,H,none⟩) 14 d)/\SlI .u8 w' (δ (some ⟨b,H,none⟩) 14 d) wrB/\qa w w':=by
 refine(NG h 0 (by rw[tq7];decide)).mono ?_;rintro e w' ⟨⟨v,rfl,G⟩,m⟩;rw[tq7] at G;have Y:=G.sl ζ;obtain⟨ai,cap,rfl,_,O,_⟩:=Y;obtain⟨g,H,cs,rfl,af,ae,J,v,rfl,I,_,_,ag,_⟩:=O 0 ζ;obtain⟨⟨xs,⟨_,U⟩,_⟩,_⟩:=id G;rcases U with ⟨e,_⟩ | ⟨g',ab,cur,e,ac,_⟩
 ·cases e
 ·injection e with e1 _ _
  injection e1 with e1
  injection e1 with e1 e2 _
  subst e1 e2;obtain⟨aj,d,rfl,_⟩:=id I;obtain⟨b,N,rfl,ad,ah⟩:=I.addr ζ;exact⟨g,cap,b,N,d,rfl,J 0 ζ,J 1 ζ,I,m⟩
theorem EI {aI w:World} {pb:Nat} {F:List Nat} (h:Pl aI pb (some tp5) F w) (aB:Lib.TabIs prog aI uj .u64 Lib.pow10Tab):
  Calls prog 269 #[γ pb,ι 0] w λe w'=>e= .returned (.string ⟨#[48,58,53,58,49,48,48]⟩)/\qa w w':=by
 obtain⟨ba,hi,aV,aW,aX⟩:=info_parts (P:=prog) (e:=9) (z:= .string ByteArray.empty) (size:=1) (bytes:=16) ξ;obtain⟨R,ax,aw⟩:=h.room;have ao:w.cell? ⟨pb,0,none⟩=some (π (some ⟨R,0,none⟩)):=qb aw 0 rfl;have aN:=κ (vt aB h.2.2.1);have aj:=κ (NF ax);clear h ax aw aB
 go_enter func269,ntmps269
 go_wp2_with ((go_at_call 14;(go_call aj.o as e w8 ⟨g,cap,b,ah,ag,rfl,ap,aq,aH,aE⟩;have an:=κ aH;have ak:=κ aE;clear aH aE)))
 go_loopw [5,17] (λu H wr=>(H= ι 0/\u= δ none 0 0/\w8=wr)∨(H= ι 1/\(∃aG ae,u= δ aG 1 ae)/\qV 1 RTx (λ_=>False) wr w8.heap.size 9 u [⟨#[48,58,53,58,49,48,48]⟩]/\qa w8 wr)) (λ_ H _=>1-(intOf H).toNat)
 case atStart=>exact Or.inl ⟨rfl,rfl,rfl⟩
 case round=>
  rcases hrel with ⟨rfl,rfl,rfl⟩ | ⟨rfl,⟨aG,ae,rfl⟩,aA,az⟩
  ·have ai:=κ (Mx (an.o.keep (qa.alloc w8 (.cells #[ι 0,δ (some ⟨b,ah,none⟩) 14 ag] 56))))
   go_upto_region 6 with ((go_at_call 16;(go_call ai.o as e w9 ⟨O,U,Y,I,J,N,rfl,aF⟩;have ad:=κ aF;clear aF)))
   have G:=qc ad.o (qk w8 (.cells #[ι 0,δ (some ⟨b,ah,none⟩) 14 ag] 56));have ab:=qk w9 (.cells #[μ false,υ 96,φ 5,ω 100,ω 50,δ O 0 I,false,φ 0,δ U 0 J,δ Y 2 N] 63);have G:=qq G (.cells #[μ false,υ 96,φ 5,ω 100,ω 50,δ O 0 I,false,φ 0,δ U 0 J,δ Y 2 N] 63);have aQ:=κ (((qa.alloc w8 (.cells #[ι 0,δ (some ⟨b,ah,none⟩) 14 ag] 56)).trans ad.o).al (.cells #[μ false,υ 96,φ 5,ω 100,ω 50,δ O 0 I,false,φ 0,δ U 0 J,δ Y 2 N] 63));generalize w9.alloc (.cells #[μ false,υ 96,φ 5,ω 100,ω 50,δ O 0 I,false,φ 0,δ U 0 J,δ Y 2 N] 63)=W9 at *;have bf:=β0 G;have bg:=β2 ab;have bh:=β3 ab;have aa:=qk W9 (.cells #[ι 0,ι 5,ι 100] 3);have am:=κ (aQ.o.al (.cells #[ι 0,ι 5,ι 100] 3))
   have aM:Hid (Calls prog 268 #[.string ⟨#[58]⟩,δ (some ⟨W9.heap.size,0,none⟩) 3 3] (W9.alloc (.cells #[ι 0,ι 5,ι 100] 3)) λe w'=>e= .returned (.string ⟨#[48,58,53,58,49,48,48]⟩)/\qa (W9.alloc (.cells #[ι 0,ι 5,ι 100] 3)) w'):=κ (US ⟨#[58]⟩ [0,5,100] W9.heap.size 3 _ (λi y d=>qb aa i (by
    match i,d with
    | 0,d=>simpa using d
    | 1,d=>simpa using d
    | 2,d=>simpa using d)) (ql aa) ζ ζ ζ (vt aN.o (ak.o.trans am.o)) NX ζ)
   clear G ab aa ap aq ai ad an aj ao
   go_wp2_with (first | (go_at_call 268;(go_call aM.o as e w10 ⟨rfl,aC⟩;have ac:=κ (am.o.trans aC);clear aC)) | (at_builtin;(refine jj (R:=RTx) (D:=λ_=>False) _ rfl (.tmp 27) (.tmp 40) 215 rfl w8.heap.size 9 ba (.string ByteArray.empty) 1 16 underlying215 hi aV aW aX rfl ζ _ [] rfl (qV.nil _ _ _ _ _ _) w10.heap.size [.string ⟨#[48,58,53,58,49,48,48]⟩] ⟨#[48,58,53,58,49,48,48]⟩ rfl rfl (xO η) (by simp[Value.oneCell']) (λw' _=>rfl) (λb h=>h.elim) ζ ζ (ac.o.al _).size ?_;intro v' bc af ay aU;have aO:Hid (qa w8 bc):=κ (Below.grown (ac.o.al _) ay (ac.o.al _).size (λb h=>by cases h));obtain⟨bi,bb,be,rfl,aY,aZ⟩:=af.shape;obtain rfl:bb=1:=aY;have aR:=κ af;clear af ay aU aZ)))
   go_roundw
   case rel=>exact Or.inr ⟨by go_num,⟨_,_,rfl⟩,aR.o,aO.o⟩
   case measure=>simp[intOf]
  ·clear ao ap aq;have aL:=κ aA;have aK:=κ az;clear aA az;obtain⟨aT,bd,aS,ar,au,av⟩:=aL.o.tx ζ;injection aS with e3 e4 e5
   subst e3 e5;have aJ:=κ (CA ⟨#[48,58,53,58,49,48,48]⟩ aT ae wr (av 0 _ rfl) au ar ζ);clear ar au av e4
   go_wp2_with ((go_at_call 300;(go_call aJ.o as e w5 ⟨rfl,aD⟩;have aP:=κ aD;clear aD)))
   go_ret;exact⟨rfl,ak.o.trans (aK.o.trans aP.o)⟩
section
variable {P:Program}
theorem Qp (w:World) (base:Nat) (t u H e:TypeId) (i:TypeInfo) (N:P.underlying t=some (.slice e)) (O:P.underlying u=some .string) (hi:P.info? e=some i) (ab:i.zero=some (υ 0))
  (J:i.size=1) (Y:i.bytes=1) (v:Value) (n:Nat) (xs:List Value) (G:w.ownsRow base e 1 v n xs) (s:ByteArray)
  (U:n+s.size<=maxLen) (ac:n+s.size<=140737488355328) (ag:base<=w.heap.size):
  ∃v' w',(Builtin.append_ #[t,u] H #[v,.string s]).run P w= .ok v' w'/\w'.ownsRow base e 1 v' (n+s.size) (xs++Lib.strCells s)/\w.grownBy w' v.ownBlock/\(∀g,v'.ownBlock=some g->v.ownBlock=some g∨w.heap.size<=g):=by
 obtain⟨v',w',I,ae,af,_⟩:=Lib.run_append_own_string (P:=P) w base t u H e i N O hi ab J Y v n xs G s U ac ag;refine⟨v',w',I,ae,af,λg aa=> ?_⟩;rcases id G.2 with ⟨rfl,ad⟩ | ⟨b,cap,cur,rfl,ak,ai,an,al,ah,ao⟩
 ·subst ad;obtain rfl:xs=[]:=List.eq_nil_of_length_eq_zero (by simpa using G.1);obtain⟨ap,w2,d,aj,_⟩:=Lib.run_append_own_string (P:=P) w w.heap.size t u H e i N O hi ab J Y _ 0 [] (World.ownsRow_nil w _ e 1) s U ac (Nat.le_refl _);rw[I] at d;injection d with e1 e2
  subst e1;exact Or.inr (j8 aj aa)
 ·by_cases hroom:n+s.size<=cap
  ·have am:cur.size=cap:=by simpa using ah
   have d:=Lib.run_append_room_string (P:=P) w t u H e i N O hi J b n cap cur ai s hroom τ;rw[I] at d;injection d with e1 e2
   subst e1;exact Or.inl aa
  ·have d:=Lib.run_append_grow_string (P:=P) w t u H e i (υ 0) N O hi ab ⟨b,0,none⟩ n cap xs (by rw[J];simpa using G.1) (G.cells (g:=b) rfl) s τ (by simp only[maxLen] at U;omega) (by rw[Y];exact growslice_fits τ τ);rw[I] at d;injection d with e1 e2
   subst e1;refine Or.inr (Nat.le_of_eq ?_);injection aa
theorem Qm {w:World} {ops:Array Oper} {rest:List Oper} {o:Oper} {a:Act} {Q:Exit->Act->World->Prop} (aa:o.guard=none) (d x:Operand) (t u:TypeId)
  (ab:o.op= .call {callee:= .builtin .append,args:= #[d,x],argTypes:= #[t,u]})
  (base:Nat) (e:TypeId) (i:TypeInfo) (ag:P.underlying t=some (.slice e)) (ah:P.underlying u=some .string) (hi:P.info? e=some i) (aj:i.zero=some (υ 0)) (af:i.size=1) (U:i.bytes=1)
  (v:Value) (n:Nat) (xs:List Value) (ae:a.eval d=v) (ac:w.ownsRow base e 1 v n xs) (s:ByteArray) (ai:a.eval x= .string s)
  (J:n+s.size<=maxLen) (Y:n+s.size<=140737488355328) (O:base<=w.heap.size)
  (h: ∀v' w',w'.ownsRow base e 1 v' (n+s.size) (xs++Lib.strCells s)->w.grownBy w' v.ownBlock->(∀g,v'.ownBlock=some g->v.ownBlock=some g∨w.heap.size<=g)->wpList P ops Q rest (a.put o.dst v') w'):wpList P ops Q (o::rest) a w:=by
 refine wpList_plain aa λK N=> ?_
 obtain⟨v',w',ad,G,H,I⟩:=Qp (P:=P) w base t u o.type e i ag ah hi aj af U v n xs ac s J Y O;unfold Oper.wp execOp;simp only[ab,resolve,invoke,builtin,Sem.run_bind,Sem.run_pure,Result.andThen_ok,List.map_toArray,List.map_cons,List.map_nil,ae,ai,ad];exact N _ _ (h v' w' G H I)
end
def Bd (B:Nat) (F:List Nat) (w:World) (b:Nat) (l:List UInt8):Prop:=b∈F/\B<=b/\ ∃p v,(p= .pointer none∨p= .pointer (some ⟨b,0,none⟩))/\w.heap[b]? =some (.cells #[p,v] 212 (0,0))/\w.ownsRow B 5 1 v l.length (Lib.byteCells l)/\v.ownBlock≠some b/\ ∀g,v.ownBlock=some g->g∈F
theorem Bd.is {B:Nat} {F:List Nat} {w:World} {b:Nat} {l:List UInt8} (h:Bd B F w b l):Lib.IsBuilder 212 5 B b (Lib.byteCells l) w:=by
 obtain⟨_,d,p,v,J,G,I,H,_⟩:=h;rcases J with rfl | rfl
 ·exact Or.inl ⟨d,v,G,by rw[Lib.byteCells_length];exact I,H⟩
 ·exact Or.inr ⟨d,v,G,by rw[Lib.byteCells_length];exact I,H⟩
theorem Bd.more {B:Nat} {F:List Nat} {w w':World} {b:Nat} {l:List UInt8} (h:Bd B F w b l) (t:qt F w w'):Bd B F w' b l:=by
 obtain⟨hF,J,p,v,U,d,O,N,G⟩:=h;refine⟨hF,J,p,v,U,by rw[t.2 b hF];exact d, ?_,N,G⟩;obtain⟨H,I⟩:=O;refine⟨H, ?_⟩;rcases I with h | ⟨g,cap,cur,e1,d,hgg,rest⟩
 ·exact Or.inl h
 ·exact Or.inr ⟨g,cap,cur,e1,d,by rw[t.2 g (G g (by rw[e1];rfl))];exact hgg,rest⟩
theorem Ke {B:Nat} {F:List Nat} {w:World} {b:Nat} {l:List UInt8} (h:Bd B F w b l):
  Calls prog 157 #[γ b] w λe w'=>e= .returned (.tuple #[])/\(∃v,w'.heap[b]? =some (.cells #[γ b,v] 212 (0,0))/\w'.ownsRow B 5 1 v l.length (Lib.byteCells l)/\v.ownBlock≠some b/\ ∀g,v.ownBlock=some g->g∈F)/\qg (λx=>x∈F) w w':=by
 have d:=h.is;obtain⟨hF,O,p,v,U,G,J,H,I⟩:=h;rcases d with d | d
 ·refine(Any.Builder_copyCheck_fresh {JJ with} bldX.toX72 b w d.cell0 d.shape d.frozen0).mono ?_;rintro e w' ⟨rfl,rfl⟩;refine⟨rfl,⟨v,by simp[World.setCell,Array.getElem?_modify,G], ?_,H,I⟩,(qg.refl _ _).set hF _⟩;exact J.kept (row:=some b) ⟨rfl,rfl,rfl,by simp[World.setCell],λk _ N=>Below.heap_setCell _ _ _ _ (λe=>N (by simp[e]))⟩ (Or.inr H)
 ·refine(Any.Builder_copyCheck_used {JJ with} bldX.toX72 b w d.cell0).mono ?_;rintro e w' ⟨rfl,rfl⟩;have e0:=d.cell0;rw[Lib.cell_of_heap G] at e0;injection e0 with e0
  subst e0;exact⟨rfl,⟨v,G,J,H,I⟩,qg.refl _ _⟩
theorem Az {B b:Nat} {F:List Nat} {w:World} {v v':Value} {l:List UInt8} (hF:b∈F) (I:B<=b) (d:w.heap[b]? =some (.cells #[γ b,v] 212 (0,0))) (H:w.ownsRow B 5 1 v' l.length (Lib.byteCells l)) (J: ∀g,v'.ownBlock=some g->g∈F):
  Bd B F (w.setCell ⟨b,1,none⟩ v') b l:=by
 have G:=Lib.ownBlock_ne H d bldX.neB5;exact⟨hF,I,_,v',Or.inr rfl,by simp[World.setCell,Array.getElem?_modify,d],H.kept (row:=some b) ⟨rfl,rfl,rfl,by simp[World.setCell],λk _ N=>Below.heap_setCell _ _ _ _ (λe=>N (by simp[e]))⟩ (Or.inr G),G,J⟩
theorem Oq {B:Nat} {F:List Nat} {w:World} {b:Nat} {l:List UInt8} (h:Bd B F w b l) (s:ByteArray) (ax:l.length+s.size<=100000):
  Calls prog 100 #[γ b,.string s] w λe w'=>e= .returned (.tuple #[ι s.size,.nilIface])/\qg (λx=>x∈F) w w'/\ ∃g,(g∈F∨w.heap.size<=g/\g<w'.heap.size)/\Bd B (g::F) w' b (l++s.data.toList):=by
 obtain⟨aq,hi,an,ao,ap⟩:=info_parts (P:=prog) (e:=5) (z:= υ 0) (size:=1) (bytes:=1) ξ;have hF:=h.1;have af:=h.2.1;have ay:b<w.heap.size:=by obtain⟨_,_,_,_,_,ah,_⟩:=h;exact lt_of_block ah
 have ae:=κ (Ke h);clear h
 go_enter func100,ntmps100
 go_wp2_with (first | (go_at_call 157;(go_call ae.o as e w1 ⟨rfl,⟨v,H,aa,am,U⟩,N⟩;obtain⟨I,J,rfl⟩:=xG aa;have az:w.heap.size<=w1.heap.size:=N.size;have ar:w1.cell? ⟨b,0,none⟩=some (π (some ⟨b,0,none⟩)):=(by rw[Lib.cell_of_heap H];rfl);have c1:w1.cell? ⟨b,1,none⟩=some (δ I l.length J):=(by rw[Lib.cell_of_heap H];rfl))) | (at_builtin;refine Qm rfl _ _ 35 9 rfl B 5 aq underlying35 underlying9 hi an ao ap _ _ _ rfl aa s rfl ?c3 ?c4 ?c5 ?_))
 case c3=>unfold maxLen;omega
 case c4=>omega
 case c5=>omega
 intro v' w2 ab Y ag;have al:b<w1.heap.size:=by omega
 have G:w2.heap[b]? =some (.cells #[γ b,δ I l.length J] 212 (0,0)):=by
  rw[Y.block b al (λe=>am e.symm)];exact H
 have au:w2.cell? ⟨b,0,none⟩=some (π (some ⟨b,0,none⟩)):=by rw[Lib.cell_of_heap G];rfl
 have av:w2.cell? ⟨b,1,none⟩=some (δ I l.length J):=by rw[Lib.cell_of_heap G];rfl
 have aw:w2.frozen? ⟨b,1,none⟩=false:=Lib.frozen_of_heap G 1;have ad:qg (λx=>x∈F) w w2:=N.trans ((qg.of_grown Y).mono λk d=>U k d);obtain⟨g,ak,ai,O,ac,cap,rfl⟩: ∃g,(g∈F∨w.heap.size<=g/\g<w2.heap.size)/\(∀k,v'.ownBlock=some k->k∈g::F)/\ ∃O ac cap,v'= δ O ac cap:=by
  rcases id ab.2 with ⟨rfl,_⟩ | ⟨g,cap,cur,rfl,_,aj,_⟩
  ·exact⟨b,Or.inl hF,(λk d=>by cases d),_,_,_,rfl⟩
  ·refine⟨g, ?_,(λk d=>by injection d with d;subst d;exact List.mem_cons_self),_,_,_,rfl⟩;rcases ag g rfl with e | e
   ·exact Or.inl (U g e)
   ·exact Or.inr ⟨τ,lt_of_block aj⟩
 go_wp2
 go_ret2
 refine⟨rfl,ad.set hF _,g, ?_,Az (List.mem_cons_of_mem _ hF) af G ?_ ai⟩
 ·simpa [World.setCell] using ak
 ·rw[List.length_append,Lib.byteCells_append,<-Lib.strCells_eq];exact ab
theorem Nl {B:Nat} {F:List Nat} {w:World} {b:Nat} {l:List UInt8} (h:Bd B F w b l) (aB:l.length<=100000):
  Calls prog 102 #[γ b,υ 10] w λe w'=>e= .returned .nilIface/\qg (λx=>x∈F) w w'/\ ∃g,(g∈F∨w.heap.size<=g/\g<w'.heap.size)/\Bd B (g::F) w' b (l++[10]):=by
 obtain⟨av,hi,aq,ar,au⟩:=info_parts (P:=prog) (e:=5) (z:= υ 0) (size:=1) (bytes:=1) ξ;have hF:=h.1;have aj:=h.2.1;have aC:b<w.heap.size:=by obtain⟨_,_,_,_,_,al,_⟩:=h;exact lt_of_block al
 have af:=κ (Ke h);have ai: ∀l:List UInt8,Lib.byteCells l=(l.map λc=>(c.toNat:Int)).map (Value.int .u8):=λl=>by unfold Lib.byteCells;rw[List.map_map];rfl
 clear h
 go_enter func102,ntmps102
 go_wp2_with (first | (go_at_call 157;(go_call af.o as e w1 ⟨rfl,⟨v,N,O,ap,ab⟩,aa⟩;obtain⟨H,I,rfl⟩:=xG O;have aE:w.heap.size<=w1.heap.size:=aa.size;have aw:w1.cell? ⟨b,0,none⟩=some (π (some ⟨b,0,none⟩)):=(by rw[Lib.cell_of_heap N];rfl);have c1:w1.cell? ⟨b,1,none⟩=some (δ H l.length I):=(by rw[Lib.cell_of_heap N];rfl);have ad:w1.ownsRow B 5 1 (δ H l.length I) (l.map λc=>(c.toNat:Int)).length ((l.map λc=>(c.toNat:Int)).map (Value.int .u8)):=(by rw[List.length_map,<-ai];exact O))) | (at_builtin;refine qK _ rfl _ _ 35 rfl B 5 av (υ 0) 1 underlying35 hi aq ar au rfl _ .u8 (l.map λc=>(c.toNat:Int)) rfl (ad.alloc _) _ [10] rfl (SlI.lit .u8 w1 [10] 5 _ 1 _ η rfl η η) (by simp;omega) ζ (by simp;omega) ?_))
 intro v' w2 U ac ak;have aD:b<w1.heap.size:=by omega
 have G:w2.heap[b]? =some (.cells #[γ b,δ H l.length I] 212 (0,0)):=by
  rw[ac.block b (by simp;omega) (λe=>ap e.symm)];exact qq N _
 have ax:w2.cell? ⟨b,0,none⟩=some (π (some ⟨b,0,none⟩)):=by rw[Lib.cell_of_heap G];rfl
 have ay:w2.cell? ⟨b,1,none⟩=some (δ H l.length I):=by rw[Lib.cell_of_heap G];rfl
 have aA:w2.frozen? ⟨b,1,none⟩=false:=Lib.frozen_of_heap G 1;have ae:qg (λx=>x∈F) w w2:=(aa.more (qa.alloc _ _)).trans ((qg.of_grown ac).mono λk d=>ab k d);obtain⟨g,ao,am,J,Y,cap,rfl⟩: ∃g,(g∈F∨w.heap.size<=g/\g<w2.heap.size)/\(∀k,v'.ownBlock=some k->k∈g::F)/\ ∃J Y cap,v'= δ J Y cap:=by
  rcases id U.2 with ⟨rfl,_⟩ | ⟨g,cap,cur,rfl,_,an,_⟩
  ·exact⟨b,Or.inl hF,(λk d=>by cases d),_,_,_,rfl⟩
  ·refine⟨g, ?_,(λk d=>by injection d with d;subst d;exact List.mem_cons_self),_,_,_,rfl⟩;rcases ak with e | e
   ·exact Or.inl (ab g e.symm)
   ·have az:g=w1.heap.size+1:=by simpa [Value.ownBlock] using e
    exact Or.inr ⟨τ,lt_of_block an⟩
 have ag:Hid (w2.ownsRow B 5 1 (δ J Y cap) (l++[10]).length (Lib.byteCells (l++[10]))):=κ (by
  have ah:Lib.byteCells (l++[10])=List.map (Value.int .u8∘λc:UInt8=>(c.toNat:Int)) l++[υ 10]:=by unfold Lib.byteCells;rw[List.map_append];rfl
  rw[List.length_append,ah]
  exact U)
 clear U O ad;go_wp2;go_ret;refine⟨rfl,ae.set hF _,g, ?_,Az (List.mem_cons_of_mem _ hF) aj G ?_ am⟩
 ·simpa [World.setCell] using ao
 ·exact ag.o
structure gB (s:ByteArray) (ps:List ByteArray):Prop where
 split:Lib.splitB ⟨#[32]⟩ 0 (Lib.countB s ⟨#[32]⟩) s=ps
 cnt:Lib.countB s ⟨#[32]⟩+1=ps.length
 few:ps.length<=100
 size:s.size<4294967281
 ne: ∀x∈ps,(x.data.toList==([]:List UInt8))=false
theorem DB {s:ByteArray} {ps:List ByteArray} (h:gB s ps) {aD:Int} (w:World) (av:w.cell? ⟨Zg,0,none⟩=some (ι aD)):
  Calls prog 99 #[.string s] w λe w'=>(∃H cap,e= .returned (δ H ps.length cap)/\SlP 1 RTx w' (δ H ps.length cap) ps)/\qa w w':=by
 obtain⟨aB,hi,aw,ax,ay⟩:=info_parts (P:=prog) (e:=9) (z:= .string ByteArray.empty) (size:=1) (bytes:=16) ξ;obtain⟨ac,ad,aG,ae,af⟩:=h;have ab:=κ (AH s ⟨#[32]⟩ w ae av ζ);rw[ac,ad] at ab;have am:Hid (∀i (hi:i<ps.length),(ps[i].toList==([]:List UInt8))=false):=κ (λi hi=>by rw[ByteArray.toList_eq];exact af _ (List.getElem_mem hi));clear ac ad ae af
 go_enter func99,ntmps99
 go_wp2_with ((go_at_call 98;(go_call ab.o as e w1 ⟨rfl,N⟩;have ap:Hid (qa w w1):=κ (by rw[N];exact qa.alloc _ _);have aj:Hid (w1.heap[w.heap.size]? =some (.cells (ps.map Value.string).toArray 9 (0,0))):=κ (by rw[N];exact qk _ _);clear N)))
 go_loopw [3,9] (λu U wr=> ∃i:Nat,i<=ps.length/\U= ι i/\(∃aa Y J,u= δ aa Y J)/\qV 1 RTx (λ_=>False) wr w1.heap.size 9 u (ps.take i)/\qa w1 wr) (λ_ U _=>ps.length-(intOf U).toNat)
 case atStart=>exact⟨0,τ,rfl,⟨_,_,_,rfl⟩,qV.nil _ _ _ _ _ _,qa.refl _⟩
 case round=>
  obtain⟨i,aH,rfl,⟨aa,Y,J,rfl⟩,ai,ah⟩:=hrel;have I:=κ ai;have G:=κ ah;clear ai ah;by_cases hlt:i<ps.length
  ·have au:(i:Int)<(ps.length:Int):=by omega
   have aE:wr.cell? ⟨w.heap.size,i,none⟩=some (.string ps[i]):=qb (qc G.o aj.o) i (by simp[List.getElem?_eq_getElem hlt]);have aI:=am.o i hlt;have ao:Hid (ps.take (i+1)=ps.take i++[ps[i]]):=κ (List.take_succ_eq_append_getElem hlt);have aJ:(ps.take i).length<=100:=by rw[List.length_take];omega
   generalize ps[i]=x at *;generalize ps.take i=fl at *;have an:=κ (I.o.on (qa.alloc wr (.cells #[.string x] 9)));have ak:Hid (∀b,(δ aa Y J).ownBlock=some b->w1.heap.size<=b):=κ (λb h=>I.o.ge h)
   go_wp2_with (at_builtin;(refine jj (R:=RTx) (D:=λ_=>False) _ rfl (.tmp 15) (.tmp 17) 215 rfl w1.heap.size 9 aB (.string ByteArray.empty) 1 16 underlying215 hi aw ax ay rfl ζ _ fl rfl an.o wr.heap.size [.string x] x rfl rfl (xO η) (by simp[Value.oneCell']) (λw' _=>rfl) (λb h=>h.elim) ζ τ (G.o.al _).size ?_;intro v' w8 d ag ar;have aC:Hid (qa w1 w8):=κ (Below.grown (G.o.al _) ag (G.o.al _).size ak.o);obtain⟨aL,aK,aF,rfl,az,aA⟩:=d.shape;have aq:=κ d;clear d ag ar az aA))
   go_roundw
   case rel=>exact⟨i+1,τ,by go_num,⟨_,_,_,rfl⟩,by rw[ao.o];exact aq.o,aC.o⟩
   case measure=>simp[intOf];omega
  ·obtain rfl:i=ps.length:=by omega
   have au: ¬(ps.length:Int)<(ps.length:Int):=by omega
   go_wp2;go_ret;have d:=I.o;rw[List.take_length] at d;have O:=d.sl ζ;obtain⟨H,cap,e,_⟩:=id O;rw[e] at O ⊢;exact⟨⟨H,cap,rfl,O⟩,ap.o.trans G.o⟩
def scT:ByteArray:=⟨#[114,111,111,109,32,50,32,50,32,49,32,49,32,50,32,49,10,112,117,98,108,105,115,104,32,48,32,55,32,56,32,57,10,106,111,105,110,32,48,32,53,48,32,53,32,49,48,48,10,116,97,107,101,32,48,32,48,32,48,10,107,101,121,32,55,32,49,32,57,10,116,117,114,110,32,49,10,119,114,111,116,101,32,48]⟩
def scL:List ByteArray:=[⟨#[114,111,111,109,32,50,32,50,32,49,32,49,32,50,32,49]⟩,⟨#[112,117,98,108,105,115,104,32,48,32,55,32,56,32,57]⟩,⟨#[106,111,105,110,32,48,32,53,48,32,53,32,49,48,48]⟩,⟨#[116,97,107,101,32,48,32,48,32,48]⟩,⟨#[107,101,121,32,55,32,49,32,57]⟩,⟨#[116,117,114,110,32,49]⟩,⟨#[119,114,111,116,101,32,48]⟩]
theorem scS:Lib.splitB ⟨#[10]⟩ 0 (Lib.countB scT ⟨#[10]⟩) scT=scL:=by kernel_rfl
theorem scC:Lib.countB scT ⟨#[10]⟩=6:=by kernel_rfl
theorem Nh (w:World):Calls prog 161 #[.string ⟨#[114,111,111,109]⟩] w λe w'=>e= .returned (.string ⟨#[110,110,110,110,110,110]⟩)/\w'=w:=by
 go_enter func161,ntmps161
 go_wp2;go_ret;exact⟨rfl,rfl⟩
theorem IZ:gB ⟨#[114,111,111,109,32,50,32,50,32,49,32,49,32,50,32,49]⟩ [⟨#[114,111,111,109]⟩,⟨#[50]⟩,⟨#[50]⟩,⟨#[49]⟩,⟨#[49]⟩,⟨#[50]⟩,⟨#[49]⟩]:=⟨ξ,ξ,ζ,ζ,ζ⟩
theorem NO:gA ⟨#[110,110,110,110,110,110]⟩ [⟨#[50]⟩,⟨#[50]⟩,⟨#[49]⟩,⟨#[49]⟩,⟨#[50]⟩,⟨#[49]⟩] [2,2,1,1,2,1]:=⟨rfl,ζ,ζ,rfl,λi h d G=>by
 match i,h with
 | 0,_=>exact(⟨ζ,ζ,ζ,ζ,ζ⟩:yM ⟨#[50]⟩ 999999999 2)
 | 1,_=>exact(⟨ζ,ζ,ζ,ζ,ζ⟩:yM ⟨#[50]⟩ 999999999 2)
 | 2,_=>exact(⟨ζ,ζ,ζ,ζ,ζ⟩:yM ⟨#[49]⟩ 999999999 1)
 | 3,_=>exact(⟨ζ,ζ,ζ,ζ,ζ⟩:yM ⟨#[49]⟩ 999999999 1)
 | 4,_=>exact(⟨ζ,ζ,ζ,ζ,ζ⟩:yM ⟨#[50]⟩ 999999999 2)
 | 5,_=>exact(⟨ζ,ζ,ζ,ζ,ζ⟩:yM ⟨#[49]⟩ 999999999 1)⟩
theorem Ng (w:World):Calls prog 161 #[.string ⟨#[112,117,98,108,105,115,104]⟩] w λe w'=>e= .returned (.string ⟨#[110,110,110,110]⟩)/\w'=w:=by
 go_enter func161,ntmps161
 go_wp2;go_ret;exact⟨rfl,rfl⟩
theorem IY:gB ⟨#[112,117,98,108,105,115,104,32,48,32,55,32,56,32,57]⟩ [⟨#[112,117,98,108,105,115,104]⟩,⟨#[48]⟩,⟨#[55]⟩,⟨#[56]⟩,⟨#[57]⟩]:=⟨ξ,ξ,ζ,ζ,ζ⟩
theorem NM:gA ⟨#[110,110,110,110]⟩ [⟨#[48]⟩,⟨#[55]⟩,⟨#[56]⟩,⟨#[57]⟩] [0,7,8,9]:=⟨rfl,ζ,ζ,rfl,λi h d G=>by
 match i,h with
 | 0,_=>exact(⟨ζ,ζ,ζ,ζ,ζ⟩:yM ⟨#[48]⟩ 999999999 0)
 | 1,_=>exact(⟨ζ,ζ,ζ,ζ,ζ⟩:yM ⟨#[55]⟩ 999999999 7)
 | 2,_=>exact(⟨ζ,ζ,ζ,ζ,ζ⟩:yM ⟨#[56]⟩ 999999999 8)
 | 3,_=>exact(⟨ζ,ζ,ζ,ζ,ζ⟩:yM ⟨#[57]⟩ 999999999 9)⟩
theorem Nf (w:World):Calls prog 161 #[.string ⟨#[106,111,105,110]⟩] w λe w'=>e= .returned (.string ⟨#[110,110,115,110]⟩)/\w'=w:=by
 go_enter func161,ntmps161
 go_wp2;go_ret;exact⟨rfl,rfl⟩
theorem IX:gB ⟨#[106,111,105,110,32,48,32,53,48,32,53,32,49,48,48]⟩ [⟨#[106,111,105,110]⟩,⟨#[48]⟩,⟨#[53,48]⟩,⟨#[53]⟩,⟨#[49,48,48]⟩]:=⟨ξ,ξ,ζ,ζ,ζ⟩
theorem NL:gA ⟨#[110,110,115,110]⟩ [⟨#[48]⟩,⟨#[53,48]⟩,⟨#[53]⟩,⟨#[49,48,48]⟩] [0,50,5,100]:=⟨rfl,ζ,ζ,rfl,λi h d G=>by
 match i,h with
 | 0,_=>exact(⟨ζ,ζ,ζ,ζ,ζ⟩:yM ⟨#[48]⟩ 999999999 0)
 | 1,_=>exact(⟨ζ,ζ,ζ,ζ,ζ⟩:yM ⟨#[53,48]⟩ 999999999 50)
 | 2,_=>exact(⟨ζ,ζ,ζ,ζ,ζ⟩:yM ⟨#[53]⟩ 65535 5)
 | 3,_=>exact(⟨ζ,ζ,ζ,ζ,ζ⟩:yM ⟨#[49,48,48]⟩ 999999999 100)⟩
theorem Nd (w:World):Calls prog 161 #[.string ⟨#[116,97,107,101]⟩] w λe w'=>e= .returned (.string ⟨#[110,110,110]⟩)/\w'=w:=by
 go_enter func161,ntmps161
 go_wp2;go_ret;exact⟨rfl,rfl⟩
theorem IW:gB ⟨#[116,97,107,101,32,48,32,48,32,48]⟩ [⟨#[116,97,107,101]⟩,⟨#[48]⟩,⟨#[48]⟩,⟨#[48]⟩]:=⟨ξ,ξ,ζ,ζ,ζ⟩
theorem NK:gA ⟨#[110,110,110]⟩ [⟨#[48]⟩,⟨#[48]⟩,⟨#[48]⟩] [0,0,0]:=⟨rfl,ζ,ζ,rfl,λi h d G=>by
 match i,h with
 | 0,_=>exact(⟨ζ,ζ,ζ,ζ,ζ⟩:yM ⟨#[48]⟩ 999999999 0)
 | 1,_=>exact(⟨ζ,ζ,ζ,ζ,ζ⟩:yM ⟨#[48]⟩ 999999999 0)
 | 2,_=>exact(⟨ζ,ζ,ζ,ζ,ζ⟩:yM ⟨#[48]⟩ 999999999 0)⟩
theorem Nc (w:World):Calls prog 161 #[.string ⟨#[107,101,121]⟩] w λe w'=>e= .returned (.string ⟨#[110,115,110]⟩)/\w'=w:=by
 go_enter func161,ntmps161
 go_wp2;go_ret;exact⟨rfl,rfl⟩
theorem IV:gB ⟨#[107,101,121,32,55,32,49,32,57]⟩ [⟨#[107,101,121]⟩,⟨#[55]⟩,⟨#[49]⟩,⟨#[57]⟩]:=⟨ξ,ξ,ζ,ζ,ζ⟩
theorem NJ:gA ⟨#[110,115,110]⟩ [⟨#[55]⟩,⟨#[49]⟩,⟨#[57]⟩] [7,1,9]:=⟨rfl,ζ,ζ,rfl,λi h d G=>by
 match i,h with
 | 0,_=>exact(⟨ζ,ζ,ζ,ζ,ζ⟩:yM ⟨#[55]⟩ 999999999 7)
 | 1,_=>exact(⟨ζ,ζ,ζ,ζ,ζ⟩:yM ⟨#[49]⟩ 65535 1)
 | 2,_=>exact(⟨ζ,ζ,ζ,ζ,ζ⟩:yM ⟨#[57]⟩ 999999999 9)⟩
theorem Nb (w:World):Calls prog 161 #[.string ⟨#[116,117,114,110]⟩] w λe w'=>e= .returned (.string ⟨#[116]⟩)/\w'=w:=by
 go_enter func161,ntmps161
 go_wp2;go_ret;exact⟨rfl,rfl⟩
theorem IU:gB ⟨#[116,117,114,110,32,49]⟩ [⟨#[116,117,114,110]⟩,⟨#[49]⟩]:=⟨ξ,ξ,ζ,ζ,ζ⟩
theorem NI:gA ⟨#[116]⟩ [⟨#[49]⟩] [1]:=⟨rfl,ζ,ζ,rfl,λi h d G=>by
 match i,h with
 | 0,_=>exact(⟨ζ,ζ,ζ,ζ,ζ⟩:yM ⟨#[49]⟩ 20 1)⟩
theorem Na (w:World):Calls prog 161 #[.string ⟨#[119,114,111,116,101]⟩] w λe w'=>e= .returned (.string ⟨#[110]⟩)/\w'=w:=by
 go_enter func161,ntmps161
 go_wp2;go_ret;exact⟨rfl,rfl⟩
theorem IT:gB ⟨#[119,114,111,116,101,32,48]⟩ [⟨#[119,114,111,116,101]⟩,⟨#[48]⟩]:=⟨ξ,ξ,ζ,ζ,ζ⟩
theorem NH:gA ⟨#[110]⟩ [⟨#[48]⟩] [0]:=⟨rfl,ζ,ζ,rfl,λi h d G=>by
 match i,h with
 | 0,_=>exact(⟨ζ,ζ,ζ,ζ,ζ⟩:yM ⟨#[48]⟩ 999999999 0)⟩
theorem Mu {H w:World} {pb g cap:Nat} {F:List Nat} (h:Pl H pb (some tp4) F w) (ad:Lib.TabIs prog H uj .u64 Lib.pow10Tab) (O: ∀i y,([1]:List Int)[i]? =some y->w.cell? ⟨g,i,none⟩=some (ι y)):
  Calls prog 218 #[γ pb,.string ⟨#[116,117,114,110]⟩,δ (some ⟨g,0,none⟩) 1 cap] w λe w'=>e= .returned (.string ⟨#[53]⟩)/\Pl H pb (some tp5) F w'/\jV pb F w w':=by
 obtain⟨R,ac,N⟩:=h.room;have ae:w.cell? ⟨pb,0,none⟩=some (π (some ⟨R,0,none⟩)):=qb N 0 rfl;have c1:=O 0 1 rfl;have U:=κ (ID h);clear h ac N O
 go_enter func218,ntmps218
 go_wp2_with (first | (go_at_call 267;(go_call U.o as e w5 ⟨rfl,d,t5⟩;have I:=κ d;have aa:=κ t5;have J:=κ (Il 5 ζ w5 (vt ad d.2.2.1));rw[MT] at J;clear d t5)) | (go_at_call 159;(go_call J.o as e w6 ⟨rfl,G⟩;have Y:=κ (I.o.on G);have ab:=κ (aa.o.trans (I.o.stay G));clear G)))
 go_ret;exact⟨rfl,Y.o,ab.o⟩
theorem do5 {d w:World} {pb g cap:Nat} {F:List Nat} (h:Pl d pb (some tp4) F w) (Y:Lib.TabIs prog d uj .u64 Lib.pow10Tab) (I: ∀i y,([1]:List Int)[i]? =some y->w.cell? ⟨g,i,none⟩=some (ι y)):
  Calls prog 162 #[γ pb,.string ⟨#[116,117,114,110]⟩,δ (some ⟨g,0,none⟩) 1 cap] w λe w'=>e= .returned (.string ⟨#[53]⟩)/\Pl d pb (some tp5) F w'/\jV pb F w w':=by
 obtain⟨R,U,H⟩:=h.room;have aa:w.cell? ⟨pb,0,none⟩=some (π (some ⟨R,0,none⟩)):=qb H 0 rfl;have J:=κ (Mu (cap:=cap) h Y I);clear h U H I
 go_enter func162,ntmps162
 go_wp2_with ((go_at_call 218;(go_call J.o as e w5 ⟨rfl,G,t5⟩;have N:=κ G;have O:=κ t5;clear G t5)))
 go_ret;exact⟨rfl,N.o,O.o⟩
theorem Mt {G w:World} {pb g cap:Nat} {F:List Nat} (h:Pl G pb (some tp5) F w) (aa:Lib.TabIs prog G uj .u64 Lib.pow10Tab) (J: ∀i y,([0]:List Int)[i]? =some y->w.cell? ⟨g,i,none⟩=some (ι y)):
  Calls prog 218 #[γ pb,.string ⟨#[119,114,111,116,101]⟩,δ (some ⟨g,0,none⟩) 1 cap] w λe w'=>e= .returned (.string ⟨#[48,58,53,58,49,48,48]⟩)/\Pl G pb (some tp5) F w'/\jV pb F w w':=by
 obtain⟨R,Y,I⟩:=h.room;have ab:w.cell? ⟨pb,0,none⟩=some (π (some ⟨R,0,none⟩)):=qb I 0 rfl;have c1:=J 0 0 rfl;have N:=κ (EI h aa);have H:=κ h;clear h Y I J
 go_enter func218,ntmps218
 go_wp2_with ((go_at_call 269;(go_call N.o as e w5 ⟨rfl,d⟩;have O:=κ (H.o.on d);have U:=κ (H.o.stay d);clear d)))
 go_ret;exact⟨rfl,O.o,U.o⟩
theorem do6 {d w:World} {pb g cap:Nat} {F:List Nat} (h:Pl d pb (some tp5) F w) (Y:Lib.TabIs prog d uj .u64 Lib.pow10Tab) (I: ∀i y,([0]:List Int)[i]? =some y->w.cell? ⟨g,i,none⟩=some (ι y)):
  Calls prog 162 #[γ pb,.string ⟨#[119,114,111,116,101]⟩,δ (some ⟨g,0,none⟩) 1 cap] w λe w'=>e= .returned (.string ⟨#[48,58,53,58,49,48,48]⟩)/\Pl d pb (some tp5) F w'/\jV pb F w w':=by
 obtain⟨R,U,H⟩:=h.room;have aa:w.cell? ⟨pb,0,none⟩=some (π (some ⟨R,0,none⟩)):=qb H 0 rfl;have J:=κ (Mt (cap:=cap) h Y I);clear h U H I
 go_enter func162,ntmps162
 go_wp2_with ((go_at_call 218;(go_call J.o as e w5 ⟨rfl,G,t5⟩;have N:=κ G;have O:=κ t5;clear G t5)))
 go_ret;exact⟨rfl,N.o,O.o⟩
def EA:Nat->ByteArray
 | 0=>⟨#[114,111,111,109,32,50,32,50,32,49,32,49,32,50,32,49]⟩
 | 1=>⟨#[112,117,98,108,105,115,104,32,48,32,55,32,56,32,57]⟩
 | 2=>⟨#[106,111,105,110,32,48,32,53,48,32,53,32,49,48,48]⟩
 | 3=>⟨#[116,97,107,101,32,48,32,48,32,48]⟩
 | 4=>⟨#[107,101,121,32,55,32,49,32,57]⟩
 | 5=>⟨#[116,117,114,110,32,49]⟩
 | _=>⟨#[119,114,111,116,101,32,48]⟩
def Gz:Nat->List ByteArray
 | 0=>[⟨#[114,111,111,109]⟩,⟨#[50]⟩,⟨#[50]⟩,⟨#[49]⟩,⟨#[49]⟩,⟨#[50]⟩,⟨#[49]⟩]
 | 1=>[⟨#[112,117,98,108,105,115,104]⟩,⟨#[48]⟩,⟨#[55]⟩,⟨#[56]⟩,⟨#[57]⟩]
 | 2=>[⟨#[106,111,105,110]⟩,⟨#[48]⟩,⟨#[53,48]⟩,⟨#[53]⟩,⟨#[49,48,48]⟩]
 | 3=>[⟨#[116,97,107,101]⟩,⟨#[48]⟩,⟨#[48]⟩,⟨#[48]⟩]
 | 4=>[⟨#[107,101,121]⟩,⟨#[55]⟩,⟨#[49]⟩,⟨#[57]⟩]
 | 5=>[⟨#[116,117,114,110]⟩,⟨#[49]⟩]
 | _=>[⟨#[119,114,111,116,101]⟩,⟨#[48]⟩]
def GF:Nat->List UInt8
 | 0=>[111,107]
 | 1=>[111,107]
 | 2=>[111,107]
 | 3=>[111,107]
 | 4=>[111,107]
 | 5=>[111,107,32,53]
 | _=>[111,107,32,48,58,53,58,49,48,48]
def scR:Nat->Option RmS
 | 0=>none
 | 1=>some tp0
 | 2=>some tp1
 | 3=>some tp2
 | 4=>some tp3
 | 5=>some tp4
 | 6=>some tp5
 | _=>some tp5
def gz (j:Nat):List UInt8:=(List.range j).flatMap λk=>GF k++[10]
theorem Us (j:Nat):gz (j+1)=gz j++GF j++[10]:=by
 unfold gz;rw[List.range_succ,List.flatMap_append];simp
theorem GZ: ∀j,j<7->(gz j).length<=100/\(GF j).length<=20:=by decide
theorem IS: ∀j,j<7->gB (EA j) (Gz j)
 | 0,_=>IZ
 | 1,_=>IY
 | 2,_=>IX
 | 3,_=>IW
 | 4,_=>IV
 | 5,_=>IU
 | 6,_=>IT
theorem Bc: ∀j,j<7->0<(Gz j).length:=by decide
theorem Ld {N:World} {pb:Nat} (O:Lib.TabIs prog N uj .u64 Lib.pow10Tab): ∀j,j<7-> ∀(F:List Nat) (w:World) (c J cap:Nat),Pl N pb (scR j) F w->SlP 1 RTx w (δ (some ⟨c,J,none⟩) (Gz j).length cap) (Gz j)->
  Calls prog 101 #[γ pb,δ (some ⟨c,J,none⟩) (Gz j).length cap] w λe w'=>e= .returned (.string ⟨(GF j).toArray⟩)/\Pl N pb (scR (j+1)) F w'/\jV pb F w w'
 | 0,_=>λF w c J cap h G=>vu (more:=[]) h G Nh NO (by rw[ByteArray.toList_eq];decide) ζ (λF w g cap h H I d=>do0 h H I d)
 | 1,_=>λF w c J cap h G=>vu (more:=[]) h G Ng NM (by rw[ByteArray.toList_eq];decide) ζ (λF w g cap h H I d=>do1 h H I d)
 | 2,_=>λF w c J cap h G=>vu (more:=[]) h G Nf NL (by rw[ByteArray.toList_eq];decide) ζ (λF w g cap h H I d=>do2 h H I d)
 | 3,_=>λF w c J cap h G=>vu (more:=[]) h G Nd NK (by rw[ByteArray.toList_eq];decide) ζ (λF w g cap h H I d=>do3 h H I d)
 | 4,_=>λF w c J cap h G=>vu (more:=[]) h G Nc NJ (by rw[ByteArray.toList_eq];decide) ζ (λF w g cap h H I d=>do4 h H I d)
 | 5,_=>λF w c J cap h G=>vu (more:=[53]) h G Nb NI (by rw[ByteArray.toList_eq];decide) ζ (λF w g cap h H I d=>do5 h O d)
 | 6,_=>λF w c J cap h G=>vu (more:=[48,58,53,58,49,48,48]) h G Na NH (by rw[ByteArray.toList_eq];decide) ζ (λF w g cap h H I d=>do6 h O d)
theorem By: ∀j,j<7->(scL.map Value.string).toArray[j]? =some (.string (EA j)):=by
 intro j d
 match j,d with
 | 0,_=>rfl
 | 1,_=>rfl
 | 2,_=>rfl
 | 3,_=>rfl
 | 4,_=>rfl
 | 5,_=>rfl
 | 6,_=>rfl
def scOut:List UInt8:=[111,107,10,111,107,10,111,107,10,111,107,10,111,107,10,111,107,32,53,10,111,107,32,48,58,53,58,49,48,48,10]
theorem Mr:gz 7=scOut:=by decide
theorem Nm {aY:Int} (w:World) (au:w.cell? ⟨Zg,0,none⟩=some (ι aY)) (aU:Lib.TabIs prog w uj .u64 Lib.pow10Tab):
  Calls prog 39 #[.string scT] w λe w'=>e= .returned (.tuple #[.string ⟨scOut.toArray⟩,ι 0])/\qa w w':=by
 have bB:(scT.size:Int)=84:=by decide
 have aS:Zg<w.heap.size:=(kN au).2;obtain⟨W1,aq⟩:=ν (w.alloc (.cells #[π none,()] 212));obtain⟨W2,ar⟩:=ν (W1.alloc (.cells #[π none] 214));have ak:qa w W1:=by rw[<-aq];exact qa.alloc _ _
 have U:qa W1 W2:=by rw[<-ar];exact qa.alloc _ _
 have av:W1.heap.size=w.heap.size+1:=by rw[<-aq];simp
 have aT:W2.heap.size=w.heap.size+2:=by rw[<-ar];simp[av]
 have aG:=κ (λw' (m:qa w w')=>show w'.cell? ⟨Zg,0,none⟩=some (ι aY) from by rw[m.cells _ _ aS];exact au);have aj:=κ (AH scT ⟨#[10]⟩ W2 ζ (aG.o _ (ak.trans U)) ζ);rw[scS,scC] at aj;have bi:=κ aU;have aB:Hid (W2.heap[w.heap.size]? =some (.cells #[π none,()] 212 (0,0))):=κ (qc U (by rw[<-aq];exact qk _ _));have aC:Hid (W2.heap[W1.heap.size]? =some (.cells #[π none] 214 (0,0))):=κ (by rw[<-ar];exact qk _ _);have bl:=κ (ak.trans U);have aH:=κ av;have aI:=κ aT;clear au aU aS ak U av aT
 go_enter func39,ntmps39
 go_wp2_with ((go_at_call 98;(go_call aj.o as e J ⟨rfl,ac⟩;have al:Hid (qa W2 J):=κ (by rw[ac];exact qa.alloc _ _);have I:Hid (J.heap[W2.heap.size]? =some (.cells (scL.map Value.string).toArray 9 (0,0))):=κ (by rw[ac];exact qk _ _);clear ac)))
 have bs:=aH.o;have bt:=aI.o;have bu:=ql I.o;have aP:Hid (∃G,W1.heap.size∉G/\W2.heap.size∉G/\Pl w W1.heap.size (scR 0) ([W1.heap.size,W2.heap.size]++G) J/\Bd w.heap.size G J w.heap.size (gz 0)/\J.heap[W2.heap.size]? =some (.cells (scL.map Value.string).toArray 9 (0,0))):=κ
  ⟨[w.heap.size],(by simp;omega),(by simp;omega),⟨η,λb d=>by simp at d;omega,bl.o.trans al.o,qc al.o aC.o⟩,⟨η,Nat.le_refl _,_,_,Or.inl rfl,qc al.o aB.o,World.ownsRow_nil _ _ _ _,by simp[Value.ownBlock],λg h=>by cases h⟩,I.o⟩
 clear bs bt bu aj I aC aB
 go_loopw [15] (λaw wr=> ∃j:Nat,j<=7/\aw= ι j/\ ∃G,W1.heap.size∉G/\W2.heap.size∉G/\Pl w W1.heap.size (scR j) ([W1.heap.size,W2.heap.size]++G) wr/\Bd w.heap.size G wr w.heap.size (gz j)/\wr.heap[W2.heap.size]? =some (.cells (scL.map Value.string).toArray 9 (0,0))) (λaw _=>7-(intOf aw).toNat)
 case atStart=>exact⟨0,τ,rfl,aP.o⟩
 case round=>
  obtain⟨j,bA,rfl,G,ay,n2,N,d,af⟩:=hrel;have Y:=κ ay;have am:=κ n2;have ai:=κ N;have bf:=κ d;have bg:=κ af;by_cases hlt:j<7
  ·have br:(j:Int)<7:=by omega
   have bx:wr.cell? ⟨W2.heap.size,j,none⟩=some (.string (EA j)):=qb af j (By j hlt);have aK:=κ (DB (IS j hlt) wr (aG.o wr N.2.2.1));have aF:=κ (Ld (pb:=W1.heap.size) bi.o j hlt);obtain⟨bw,aW⟩:=ν (Gz j);have aV:=Bc j hlt;rw[aW] at aK aF aV;obtain⟨t1,t2⟩:=GZ j hlt;have bq:=κ (Us j);have aE:=κ (⟨t1,t2⟩:(gz j).length<=100/\(GF j).length<=20);generalize EA j=ln at *;clear ay n2 N d af aW t1 t2 aP
   go_wp2_with (first | (go_at_call 99;(go_call aK.o as e w1 ⟨⟨bv,cap,rfl,s1⟩,ax⟩;obtain⟨c,ag,cs,rfl,_,_,_,_⟩:=(show ∃b ag cs,bv=some ⟨b,ag,none⟩/\b<w1.heap.size/\cs.length=1/\(∀j,j<1->w1.cell? ⟨b,ag+0* 1+j,none⟩=cs[j]?)/\RTx w1 cs bw[0] from (by obtain⟨bC,bz,e,_,ae,_⟩:=s1;injection e with e1 e2 ac;subst e1;exact ae 0 aV));have bd:=κ (ai.o.on ax);have bh:=κ (aF.o _ w1 c ag cap bd.o s1);have bp:=κ (ai.o.stay ax);clear s1 ax)) | (go_at_call 101;(go_call bh.o as e w2 ⟨rfl,ae,t2⟩;have ah:=κ ae;have ap:=κ (bp.o.trans t2);have bb:=κ (bf.o.more (F:=G) ⟨ap.o.1,λb d=>ap.o.2 b (List.mem_append_right _ d) (λe=>Y.o (e▸d))⟩);have bj:=κ (ap.o.blk η (λe=>by have:=aH.o;have:=aI.o;omega) bg.o);clear ae t2)) | (go_at_call 100;(go_call Oq bb.o ⟨(GF j).toArray⟩ (by have:=aE.o;simp[ByteArray.size];omega) as e bD ⟨rfl,a3,H,aZ,aQ⟩;have az:=κ a3;have an:=κ aZ;have I:=κ aQ;clear a3 aZ aQ)) | (go_at_call 102;(go_call Nl I.o (by have:=aE.o;simp;omega) as e w4 ⟨rfl,a4,ad,ba,aR⟩;have aA:=κ a4;have ao:=κ ba;have bc:=κ aR;clear a4 ba aR)))
   have aa:W1.heap.size∉H::G:=λe=>by
    rcases List.mem_cons.1 e with e | e
    ·rcases an.o with f | f
     ·exact Y.o (e▸f)
     ·have:=ah.o.lt W1.heap.size η;omega
    ·exact Y.o e
   have ab:W2.heap.size∉H::G:=λe=>by
    rcases List.mem_cons.1 e with e | e
    ·rcases an.o with f | f
     ·exact am.o (e▸f)
     ·have:=ah.o.lt W2.heap.size η;omega
    ·exact am.o e
   have O:=ah.o.mutA (Fn:=[H]) az.o (λb d=>List.mem_append_right _ d) Y.o (λb d=>by
    simp at d;subst d
    exact an.o.elim (λf=>Or.inl (List.mem_append_right _ f)) Or.inr)
   have aL:=az.o.blk bj.o am.o
   have aD:=O.mutA (Fn:=[ad]) aA.o (λb d=>by
    rcases List.mem_cons.1 d with e | e
    ·rw[e];simp
    ·exact List.mem_append_right _ (List.mem_append_right _ e)) aa (λb d=>by
    simp at d;subst d;rcases ao.o with f | f
    ·refine Or.inl ?_;rcases List.mem_cons.1 f with e | e
     ·rw[e];simp
     ·exact List.mem_append_right _ (List.mem_append_right _ e)
    ·exact Or.inr f)
   have aM:=aA.o.blk aL ab;have aN:W1.heap.size∉ad::H::G:=λe=>by
    rcases List.mem_cons.1 e with e | e
    ·rcases ao.o with f | f
     ·exact aa (e▸f)
     ·have:=O.lt W1.heap.size η;omega
    ·exact aa e
   have aO:W2.heap.size∉ad::H::G:=λe=>by
    rcases List.mem_cons.1 e with e | e
    ·rcases ao.o with f | f
     ·exact ab (e▸f)
     ·have:=O.lt W2.heap.size η;omega
    ·exact ab e
   have be:=κ (aD.sub (F':=[W1.heap.size,W2.heap.size]++(ad::H::G)) (λb d=>by
    rcases List.mem_append.1 d with e | e
    ·exact List.mem_append_right _ (List.mem_append_right _ (List.mem_append_left _ e))
    ·rcases List.mem_cons.1 e with e | e
     ·rw[e];simp
     ·rcases List.mem_cons.1 e with e | e
      ·rw[e];simp
      ·exact List.mem_append_right _ (List.mem_append_right _ (List.mem_append_right _ e))) η)
   have bk:=κ aM;have bn:=κ aN;have bo:=κ aO;clear aa ab O aL aD aM aN aO;go_roundw
   case rel=>exact⟨j+1,τ,by go_num,_,bn.o,bo.o,be.o,by rw[bq.o];exact bc.o,bk.o⟩
   case measure=>simp[intOf];omega
  ·obtain rfl:j=7:=by omega
   have br: ¬((7:Nat):Int)<7:=by omega
   have aJ:=κ (F8 w.heap.size w.heap.size (gz 7) wr d.is N.2.2.1.size);rw[Mr] at aJ;clear ay n2 N d af
   go_wp2_with ((go_at_call 103;(go_call aJ.o as e w5 ⟨rfl,aX⟩;have bm:=κ aX;clear aX)))
   go_ret2
   exact⟨rfl,Below.trans ai.o.2.2.1 bm.o⟩
theorem Uf {N:Int} (w:World) (d:w.cell? ⟨Zg,0,none⟩=some (ι N)) (G:Lib.TabIs prog w uj .u64 Lib.pow10Tab):
  Calls prog 8 #[] w λe w'=>e= .returned (μ true)/\qa w w':=by
 have I:Hid (Calls prog 39 #[.string ⟨#[114,111,111,109,32,50,32,50,32,49,32,49,32,50,32,49,10,112,117,98,108,105,115,104,32,48,32,55,32,56,32,57,10,106,111,105,110,32,48,32,53,48,32,53,32,49,48,48,10,116,97,107,101,32,48,32,48,32,48,10,107,101,121,32,55,32,49,32,57,10,116,117,114,110,32,49,10,119,114,111,116,101,32,48]⟩] w λe w'=>e= .returned (.tuple #[.string ⟨#[111,107,10,111,107,10,111,107,10,111,107,10,111,107,10,111,107,32,53,10,111,107,32,48,58,53,58,49,48,48,10]⟩,ι 0])/\qa w w'):=κ (Nm w d G);clear d G
 go_enter func8,ntmps8
 go_wp2_with ((go_at_call 39;(go_call I.o as e w5 ⟨rfl,H⟩;have J:=κ H;clear H)))
 go_ret;exact⟨rfl,J.o⟩
theorem Zu (c:CfR) (ac:Option Addr) (n cap:Nat) (os:Option Addr) (ab cs:Nat) (w:World) {aa:Int} (d:w.cell? ⟨Zg,0,none⟩=some (ι aa)) (I:Lib.TabIs prog w uj .u64 Lib.pow10Tab) (h:zR c=false):
  Calls prog 5 #[θ #[ι c.room,ι c.hold,ι c.wait,ι c.space,ι c.retry,ι c.most],δ ac n cap,δ os ab cs] w λe w'=>e= .returned (μ true)/\qa w w':=by
 have O:=κ (Hc c h);have N:=κ (λw' (m:qa w w')=>Uf w' (by rw[m.cells _ _ (kN d).2];exact d) (vt I m));clear h d I
 go_enter func5,ntmps5
 go_wp2_with (first | (go_at_call 8;(go_call N.o _ (qa.alloc _ _) as e w1 ⟨rfl,G⟩;have ad:=κ (λw' (m:qa w1 w')=>cfq c (G.trans m));obtain⟨H,ae,af,ag,ah,ai,aj⟩:=cfq c G;have U:=κ H;clear G H)) | (go_at_call 9;(go_call O.o _ as e w2 ⟨rfl,J⟩;have Y:Hid (qa w w2):=κ (U.o.trans J);clear J)))
 go_ret;exact⟨rfl,Y.o⟩
theorem Jz (c:CfR) (v:Value) (l:List A22) (os:Option Addr) (N cs:Nat) (w:World) {ak:Int} (J:w.cell? ⟨Zg,0,none⟩=some (ι ak)) (ac:Lib.TabIs prog w uj .u64 Lib.pow10Tab) (h:zR c=true) (O:SlP 14 Yv w v l) (I:vJ l=true∨20<N∨50<c.wait):
  Calls prog 5 #[θ #[ι c.room,ι c.hold,ι c.wait,ι c.space,ι c.retry,ι c.most],v,δ os N cs] w λe w'=>e= .returned (μ true)/\qa w w':=by
 have ag:=κ (Ab c h);have U:=κ (λw1 (d:qa w w1)=>Gq v l w1 (O.keep VU d));have af:=κ (λw' (m:qa w w')=>Uf w' (by rw[m.cells _ _ (kN J).2];exact J) (vt ac m));obtain⟨q,aj⟩:=ν (vJ l);rw[aj] at U I;obtain⟨ao,cap,rfl,_⟩:=Uh O;by_cases hns:(20:Int)<(N:Int)<;>by_cases hwt:(50:Int)<c.wait<;>cases q
 all_goals try exact absurd I (by simp;omega)
 all_goals
  clear h O J ac I
  go_enter func5,ntmps5
  go_wp2_with (first | (go_at_call 8;(go_call af.o _ (qa.alloc _ _) as e w1 ⟨rfl,d⟩;have ah:=κ (λw' (m:qa w1 w')=>cfq c (d.trans m));obtain⟨aa,ap,aq,ar,au,av,aw⟩:=cfq c d;have Y:=κ aa;clear d aa)) | (go_at_call 9;(go_call ag.o _ as e w2 ⟨R,rfl,ab,ad⟩;have H:Hid (qa w1 w2):=κ ad;have ae:=κ ab;clear ab ad)) | (go_at_call 10;(go_call U.o _ (Y.o.trans H.o) as e al ⟨rfl,G⟩;have am:=κ (ae.o.on G);have ai:Hid (qa w al):=κ (Y.o.trans (H.o.trans G));obtain⟨-,-,-,ax,-⟩:=ah.o _ (H.o.trans G);have an:=κ (H.o.trans G);clear G)))
  go_ret;exact⟨rfl,ai.o⟩
theorem Zb (c:CfR) (v:Value) (l:List A22) (os:Option Addr) (cs:Nat) (M:List Og) (w:World) {bT:Int} (I:w.cell? ⟨Zg,0,none⟩=some (ι bT)) (Y:Lib.TabIs prog w uj .u64 Lib.pow10Tab) (h:zR c=true) (ao:SlP 14 Yv w v l) (an:vJ l=false) (bu:SlP 2 RO w (δ os M.length cs) M) (bM:M.length<=20) (cu: ¬(50:Int)<c.wait):
  Calls prog 5 #[θ #[ι c.room,ι c.hold,ι c.wait,ι c.space,ι c.retry,ι c.most],v,δ os M.length cs] w λe w'=>e= .returned (μ true)/\qa w w':=by
 have bF:=κ (Ab c h);have aG:=κ (Gj h);have ax:=κ (Jv.start h);have aB:=κ (λw1 (aa:qa w w1)=>Gq v l w1 (ao.keep VU aa));rw[an] at aB;have bw:=κ (λw' (m:qa w w')=>Uf w' (by rw[m.cells _ _ (kN I).2];exact I) (vt Y m));have aM:=κ bu;have bx:=κ h;obtain⟨cy,cap,rfl,cr,ba⟩:=Uh ao;have az:=κ ba;have am:=κ (Cy an);have co:l.length<=120:=am.o.1;have ct: ¬(20:Int)<(M.length:Int):=by omega
 clear h ao an ba I Y bu
 go_enter func5,ntmps5
 go_wp2_with (first | (go_at_call 8;(go_call bw.o _ (qa.alloc _ _) as e w1 ⟨rfl,aa⟩;have aI:=κ (λw' (m:qa w1 w')=>cfq c (aa.trans m));obtain⟨aP,bU,bV,bW,bX,bY,bZ⟩:=cfq c aa;have H:=κ aP;clear aa aP)) | (go_at_call 9;(go_call bF.o _ as e w2 ⟨R,rfl,aS,bo⟩;have ah:Hid (qa w1 w2):=κ bo;have ar:=κ aS;clear aS bo)) | (go_at_call 10;(go_call aB.o _ (H.o.trans ah.o) as e cb ⟨rfl,ab⟩;have au:=κ (ar.o.on ab);have ci:Hid (qa w cb):=κ (H.o.trans (ah.o.trans ab));obtain⟨-,-,-,ca,-⟩:=aI.o _ (ah.o.trans ab);have ch:=κ (ah.o.trans ab);clear ab)))
 go_loopw [45] (λi wr=> ∃j:Nat,j<=l.length/\i= ι j/\ ∃s,RmR w1 wr R s []/\qX j s/\Jv c s) (λi _=>l.length-(intOf i).toNat)
 case atStart=>exact⟨0,τ,rfl,_,au.o,aG.o,ax.o⟩
 case round=>
  obtain⟨j,bP,rfl,s,G,bc,aY⟩:=hrel;have d:=κ G;have O:=κ bc;have af:=κ aY;clear G bc aY ar au aG ax ca;by_cases hlt:j<l.length
  ·obtain⟨b,bs,N,J,rfl,bN,Y,bm,bi,bk,bj,bn⟩:=az.o j hlt;have aL:=κ (Y wr (H.o.trans d.o.more));have aE:=κ (am.o.2 j hlt);have bI:=κ (bm.keep ((H.o.trans d.o.more).al (.cells #[ι (l.getD j xy).act,ι (l.getD j xy).sub,ι (l.getD j xy).pub,ι (l.getD j xy).layer,δ N (l.getD j xy).b.length J,ι (l.getD j xy).w.1,ι (l.getD j xy).w.2,μ (l.getD j xy).acc,ω (l.getD j xy).own,ω (l.getD j xy).stamp,φ (l.getD j xy).seq,ω (l.getD j xy).s0,ω (l.getD j xy).s1,ω (l.getD j xy).s2] 42)));have aw:=κ bi;have bK:=κ bk;have bH:=κ bj;have bJ:=κ bn;have bQ:(j:Int)<(l.length:Int):=by omega
   clear Y bm bi bk bj bn bN;generalize l.getD j xy=x at *;have aJ:=κ (d.o.on (qa.alloc wr (.cells #[ι x.act,ι x.sub,ι x.pub,ι x.layer,δ N x.b.length J,ι x.w.1,ι x.w.2,x.acc,ω x.own,ω x.stamp,φ x.seq,ω x.s0,ω x.s1,ω x.s2] 42)));have cm:=β0 (qk wr (.cells #[ι x.act,ι x.sub,ι x.pub,ι x.layer,δ N x.b.length J,ι x.w.1,ι x.w.2,x.acc,ω x.own,ω x.stamp,φ x.seq,ω x.s0,ω x.s1,ω x.s2] 42));have bB:=κ (Oj aJ.o O.o τ x N J bI.o aw.o aE.o bH.o bK.o);have bC:=κ (Lr O.o d.o.tkeys x aw.o aE.o bJ.o);by_cases h8:x.act=8
   ·have aK:=aJ.o;rw[h8] at aK
    go_wp2_with (refine wpList_load_mid rfl 42 (.tmp 47) rfl b (bs+j* 14) rfl [ι x.act,ι x.sub,ι x.pub,ι x.layer,δ N x.b.length J,ι x.w.1,ι x.w.2,x.acc,ω x.own,ω x.stamp,φ x.seq,ω x.s0,ω x.s1,ω x.s2] _ aL.o underlying42 rfl ξ ?_)
    go_roundw
    case rel=>exact⟨j+1,τ,by go_num,s,aK,O.o.up,af.o⟩
    case measure=>simp[intOf];omega
   ·have bA:=κ (af.o.act x h8)
    go_wp2_with (first | (refine wpList_load_mid rfl 42 (.tmp 47) rfl b (bs+j* 14) rfl [ι x.act,ι x.sub,ι x.pub,ι x.layer,δ N x.b.length J,ι x.w.1,ι x.w.2,x.acc,ω x.own,ω x.stamp,φ x.seq,ω x.s0,ω x.s1,ω x.s2] _ aL.o underlying42 rfl ξ ?_) | (go_at_call 12;(go_call bB.o as e w5 ⟨rfl,aU,t5⟩;have ae:=κ aU;clear aU t5)))
    go_roundw
    case rel=>exact⟨j+1,τ,by go_num,_,ae.o,bC.o,bA.o⟩
    case measure=>simp[intOf];omega
  ·obtain rfl:j=l.length:=by omega
   have bQ: ¬(l.length:Int)<(l.length:Int):=by omega
   obtain⟨s3,cw,bh,bd,aZ,bl,bb,be,aW,bf⟩:=Zr d.o O.o τ af.o bx.o τ _ M (aM.o.keep YD (H.o.trans d.o.more)) bM;have ay:=κ aZ;have aC:=κ be;have bD:=κ bf;have aA:=κ bd;have aH:=κ (λ(w':World) (h:RmR w1 w' R s3 []) x=>Px h.bkeys aW x);have aO:=κ (λw' (h:RmR w1 w' R s3 [])=>IB h (a:=0) (b:=0) (by rw[bl];rfl) (by rw[bb];rfl));obtain⟨-,z0,cc,cd,z3,z4,z5⟩:=aI.o _ d.o.more;clear aZ be bf bd aW bl bb O af aM az am bU bV bW bX bY bZ
   go_wp2_with (first | (go_at_call 22;(go_call ay.o as e w4 ⟨rfl,aT,_⟩;have aj:=κ aT;clear aT)) | (go_at_call 23;(go_call aO.o _ aj.o as e w5 ⟨rfl,bp⟩;have ae:=κ (aj.o.on bp);clear bp)))
   go_loopw [66] (λi ai=> ∃y:Nat,y<=6/\i= ι y/\RmR w1 ai R s3 []) (λi _=>6-(intOf i).toNat)
   case atStart=>exact⟨0,τ,rfl,ae.o⟩
   case round=>
    clear aj ae ay d z0 cc cd z3 z4 z5;obtain⟨y,cv,rfl,G⟩:=hrel;have d:=κ G;clear G;by_cases hlt6:y<6
    ·have bS:(y:Int)<6:=by omega
     have aD:=κ (MP d.o (y:Int) aC.o)
     go_upto_region 19 with ((go_at_call 24;(go_call aD.o as e ad ⟨c1,c2,g,t,rfl,ac⟩;have U:=κ ac;clear ac)))
     have I:=U.o.trans ((qa.alloc ad (.cells #[ι c1,ι c2] 103)).al (.cells #[ι 0,ι 0,ι 0] 104));have ag:((ad.alloc (.cells #[ι c1,ι c2] 103)).alloc (.cells #[ι 0,ι 0,ι 0] 104)).heap[ad.heap.size+1]? =some (.cells #[ι 0,ι 0,ι 0] 104 (0,0)):=qB η;generalize (ad.alloc (.cells #[ι c1,ι c2] 103)).alloc (.cells #[ι 0,ι 0,ι 0] 104)=W8 at *;have ak:=κ (d.o.on I);obtain⟨B,cj,aV⟩:=My ak.o aA.o bh (y:Int) (p:=0) (by rw[aH.o _ ak.o];rfl);have bG:=κ aV;have ce:=β0 ag;have cf:=β1 ag;have cg:=β2 ag;have bv:=λw=>PS 0 0 0 0 0 0 w
     rw[show (!decide ([(0:Int),0,0]=[0,0,0]))=false from rfl] at bv;clear aV I ag U aD
     go_wp2_with ((go_at_call 25;(go_call bG.o as e w9 ⟨⟨cx,cl,rfl⟩,br⟩;have bL:=κ br;clear br)))
     go_roundw
     case rel=>exact⟨y+1,τ,by go_num,ak.o.on bL.o⟩
     case measure=>simp[intOf];omega
    ·obtain rfl:y=6:=by omega
     have bS: ¬((6:Nat):Int)<6:=by omega
     have aN:=κ (Qy d.o);have cp:2<=s3.workers.length:=by unfold RmS.workers yt;simp
     have cq:=JB s3;generalize s3.workers=P at *
     go_wp2_with ((go_at_call 26;(go_call aN.o as e w6 ⟨cz,rfl,bt,bq⟩;obtain⟨cn,ck,rfl,_,bO,aX⟩:=YF bt τ;have av:=κ (d.o.on bq);have bz:=κ aX;clear bt bq aX)))
     go_loopw [94] (λi ai=> ∃j:Nat,j<=P.length/\i= ι j/\RmR w1 ai R s3 []/\qa w6 ai) (λi _=>P.length-(intOf i).toNat)
     case atStart=>exact⟨0,τ,rfl,av.o,qa.refl _⟩
     case round=>
      clear d aN aH aO av aC;obtain⟨j,bP,rfl,G,bg⟩:=hrel;have d:=κ G;have aF:=κ bg;clear G bg;by_cases hlt:j<P.length
      ·have bR:(j:Int)<(P.length:Int):=by omega
       obtain⟨aR,c1⟩:=bz.o j hlt;rw[<-aF.o.cells _ _ bO] at aR c1;generalize P[j]=y at *;obtain⟨ap,aq⟩:=y;simp only at aR c1;have aQ:=κ (qa.alloc wr (.cells #[ι ap,ι aq] 37));have bE:=κ (NY (d.o.on aQ.o) aA.o bh ap aq (bD.o (ap,aq)))
       go_wp2_with ((go_at_call 27;(go_call bE.o as e ad ⟨rfl,ac⟩;have U:=κ (aQ.o.trans ac);clear ac)))
       go_roundw
       case rel=>exact⟨j+1,τ,by go_num,d.o.on U.o,aF.o.trans U.o⟩
       case measure=>simp[intOf];omega
      ·obtain rfl:j=P.length:=by omega
       have bR: ¬(P.length:Int)<(P.length:Int):=by omega
       go_wp2;go_ret;exact⟨rfl,H.o.trans d.o.more⟩
theorem Zt (cs:Array Value) (c:CfR) (v:Value) (l:List A22) (J:Value) (M:List Og) (w:World) {N:Int} (d:w.cell? ⟨Zg,0,none⟩=some (ι N)) (G:Lib.TabIs prog w uj .u64 Lib.pow10Tab) (O:Iz w cs.toList c) (H:SlP 14 Yv w v l) (I:SlP 2 RO w J M):
  Calls prog 5 #[θ cs,v,J] w λe w'=>e= .returned (μ true)/\qa w w':=by
 obtain rfl:cs= #[ι c.room,ι c.hold,ι c.wait,ι c.space,ι c.retry,ι c.most]:=Array.toList_inj.1 O;obtain⟨os,U,rfl,_⟩:=id I;cases hc:zR c with
 | false=>
  obtain⟨Y,cap,rfl,_⟩:=id H;exact Zu c _ _ _ _ _ _ w d G hc
 | true=>
  by_cases hl:vJ l=true∨20<M.length∨50<c.wait
  ·exact Jz c v l _ _ _ w d G hc H hl
  ·exact Zb c v l _ _ M w d G hc H (by cases h:vJ l<;>simp[h] at hl ⊢) I τ τ
end Go.Proofs.YtlmllmonabafjaaGreatDoor
