/- Contracts of the functions that the law reaches, and plain laws; no conditions but those written at each. -/
import Derived.Test.YtlmllmonabafjaaGreatDoorMg23
namespace Go.Proofs.YtlmllmonabafjaaGreatDoor
open Go.Value renaming bool->μ,slice->δ,pointer->π,agg->θ
open Go.IntKind renaming i64->ι,u8->υ,u16->φ,u32->ω,i32->χ,u64->ψ
open _root_.Go.Proofs.Tryz
set_option linter.unusedSimpArgs false
set_option maxHeartbeats 8000000
set_option linter.unusedVariables false
open Go.RowKit
set_option maxRecDepth 100000
section
variable {T:Nat->Tg} {w0 w w':World} {k:RmK} {vp vr:Value} {s:RmS} {F:List Nat}
theorem Hp (h:RmX T w0 w k vp vr s F):Calls prog 66 #[γ k.RQ] w λe w'=>e= .returned (ι s.queue.length)/\qa w w':=by
 obtain⟨f,Q,H,I,d,G,css,g,a⟩:=h.que;refine(Ng g).mono ?_;rintro e w' ⟨rfl,rfl⟩;exact⟨by rw[a.len],qa.refl _⟩
def R6 (s:RmS) (i:Nat):List Int:=(subIds.take i).filter λx=>(qh s.lanes x).isSome
theorem Uk (s:RmS) (i:Nat):(R6 s i).length<=6:=Nat.le_trans (List.length_filter_le _ _) (by rw[List.length_take];show min i 6<=6;omega)
theorem je.low {α:Type} {n:Nat} {R:qL α} {D:Nat->Prop} {base d e:Nat} {v:Value} {L:List α} (h:je n R D w base e v L) (N:d<=base):je n R D w d e v L:=by
 obtain⟨⟨xs,⟨G,H⟩,I⟩,J⟩:=h;refine⟨⟨xs,⟨G, ?_⟩,I⟩,J⟩;rcases H with h | ⟨g,cap,cur,e1,hg,rest⟩
 ·exact Or.inl h
 ·exact Or.inr ⟨g,cap,cur,e1,Nat.le_trans N hg,rest⟩
theorem N9 (h:RmX T w0 w k vp vr s F):Calls prog 26 #[γ k.R] w λe w'=> ∃v,e= .returned v/\je 2 RO (λ_=>False) w' w.heap.size 37 v s.workers/\qa w w':=by
 obtain⟨aA,hi,ax,ay,az⟩:=info_parts (P:=prog) (e:=3) (z:= ι 0) (size:=1) (bytes:=8) ξ;have J:=κ h;have ab:=κ (Uk s);clear h
 go_enter func26,ntmps26
 go_wp2
 go_loopw [3,7] (λu O wr=> ∃i:Nat,i<=6/\O= ι i/\(∃ak aj ac,u= δ ak aj ac)/\wr.ownsRow w.heap.size 3 1 u (R6 s i).length ((R6 s i).map (Value.int .i64))/\qa w wr) (λ_ O _=>6-(intOf O).toNat)
 case atStart=>exact⟨0,τ,rfl,⟨_,_,_,rfl⟩,World.ownsRow_nil _ _ _ _,qa.refl _⟩
 case round=>
  obtain⟨i,aD,rfl,⟨ak,aj,ac,rfl⟩,ah,ag⟩:=hrel;have H:=κ ah;have d:=κ ag;clear ah ag;by_cases hlt:i<6
  ·have av:(i:Int)<6:=by omega
   have aa:=κ (Vo hlt);have aB:=β12 (qc d.o J.o.blk);have q:(Instr.lookup 90 (.map (some k.ML)) (ι (i:Int)) true).run prog wr= .ok (.tuple #[Gh (qh k.LA (i:Int)),μ (qh k.LA (i:Int)).isSome]) wr:=xq (J.o.lnm.more d.o) (i:Int) true;have G:=(J.o.all (.lane (i:Int))).2;have aw:=ab.o i;cases hg:qh k.LA (i:Int) with
   | none=>
    rw[hg] at G q;have I:Hid (R6 s (i+1)=R6 s i):=κ (by unfold R6;rw[aa.o,List.filter_append,List.filter_cons,if_neg (by rw[<-G];decide)];simp);clear G hg;go_wp2;go_roundw
    case rel=>exact⟨i+1,τ,by go_num,⟨_,_,_,rfl⟩,by rw[I.o];exact H.o,d.o⟩
    case measure=>simp[intOf];omega
   | some p=>
    rw[hg] at G q;have I:Hid (R6 s (i+1)=R6 s i++[(i:Int)]):=κ (by unfold R6;rw[aa.o,List.filter_append,List.filter_cons,if_pos (by rw[<-G];rfl)];simp);obtain⟨N,af⟩:=ν (R6 s i);rw[af] at I H aw;clear G hg af
    go_wp2_with (at_builtin;(refine qU _ rfl (.tmp 20) (.tmp 22) 107 rfl w.heap.size 3 aA (ι 0) 8 underlying107 hi ax ay az rfl _ .i64 N rfl (H.o.alloc _) _ [(i:Int)] rfl (SlI.lit .i64 wr [(i:Int)] 3 _ 1 _ η rfl η η) (by simp;omega) ζ (by have:=d.o.size;simp;omega) ?_;intro v6 w6 U ae _;have ao:=κ U;have an:Hid (qa w w6):=κ (Below.grown (d.o.al _) ae (d.o.al _).size (λb au=>jS H.o au));obtain⟨aE,aC,ad⟩:=xl U;rw[show (N++[(i:Int)]).length=N.length+1 from by simp] at ad;subst ad;clear U ae))
    go_roundw
    case rel=>exact⟨i+1,τ,by go_num,⟨_,_,_,rfl⟩,by rw[I.o];exact ao.o,an.o⟩
    case measure=>simp[intOf];omega
  ·obtain rfl:i=6:=by omega
   have av: ¬((6:Nat):Int)<6:=by omega
   have Y:=κ (KF (SlI.of_owns H.o (by have:=ab.o 6;omega)));have ap:Hid (yp (R6 s 6)=s.workers):=κ rfl;rw[ap.o] at Y
   go_wp2_with (go_at_call 71;(go_call Y.o as e w2 ⟨v2,rfl,am,ai⟩;have aq:=κ (am.low d.o.size);have ar:=κ ai;clear am ai))
   go_ret;exact⟨_,rfl,aq.o,d.o.trans ar.o⟩
theorem Xr (h:RmX T w0 w k vp vr s F):Calls prog 26 #[γ k.R] w λe w'=> ∃d cap,e= .returned (δ d s.workers.length cap)/\JQ w' d s.workers/\qa w w':=by
 refine(N9 h).mono ?_;rintro e w' ⟨v,rfl,G,H⟩;obtain⟨d,cap,rfl,I⟩:=LP G;exact⟨d,cap,rfl,I,H⟩
theorem LI (h:RmX T w0 w k vp vr s F) (aB:xz s.clock) (w1 w2:Int):
  Calls prog 27 #[γ k.R,θ #[ι w1,ι w2]] w λe w'=>e= .returned (μ (s.may (w1,w2)))/\qa w w':=by
 obtain⟨W1,U⟩:=ν (w.alloc (.cells #[ι w1,ι w2] 37));have M1:Hid (qa w W1):=κ (by rw[<-U];exact qa.alloc _ _);have aq:Hid (W1.heap[w.heap.size]? =some (.cells #[ι w1,ι w2] 37 (0,0))):=κ (by rw[<-U];exact qj w _);have aw:=κ (h.on M1.o);have aO:=κ aB;obtain⟨c,Y⟩:=ν (decide ((w1,w2)∈s.workers));obtain⟨ay,am⟩:=ν (s.closed);have ae:Hid (s.may (w1,w2)=(c&&(if ay then !((qh s.ret (w1,w2)).getD false) else s.mayOpen (w1,w2)))):=κ (by unfold RmS.may;rw[Y,am]);have aM:=κ am;have aQ:=κ (λ(h:c=true)=>of_decide_eq_true (Y.trans h));have av:=κ (Xr (aw.o.on (qa.drewN W1 1)));have ah:=λ(x:qt W1)=>qc x.h aq.o
 have ac:=λx=>β0 (ah x);have ad:=λx=>β1 (ah x);clear ah
 have ar:Hid (∀w' aa cap,JQ w' aa s.workers->Calls prog 72 #[δ aa s.workers.length cap,θ #[ι w1,ι w2]] w' λe w''=>e= .returned (μ c)/\qa w' w''):=κ (λw' aa cap aU=>by rw[<-Y];exact MH w1 w2 aU);clear h aB Y am
 go_enter func27,ntmps27
 go_upto_region 1 with fail
 (try rw[U])
 clear U;refine zC W1 5 [(0,false),(2,false),(1,true),(3,true),(4,false)] ξ ξ ?_
 refine Qq2 ?_
 (refine Ql ?_;intro K d)
 (with_reducible refine av.o.mono ?_)
 rintro e aZ ⟨aa,cap,rfl,aI,aJ⟩;have aS:=κ aI;have ax:Hid (qa W1 aZ):=κ ((qa.drewN W1 1).trans aJ);clear aI aJ;refine⟨_,rfl,qk ax.o,d _ _ ?_⟩;clear d K
 (refine Ql ?_;intro K d)
 go_call ar.o _ _ _ aS.o as e w4 ⟨rfl,aK⟩;have G:Hid (qa W1 w4):=κ (ax.o.trans aK);clear aK;refine⟨_,rfl,qk G.o,d _ _ ?_⟩;clear d K
 iterate 1 (refine qE rfl rfl (qk G.o) ?_;intro K d;go_big_quiet_op;go_big_quiet_on)
 refine qA ?_;clear ac ad av ar;have H:=κ (aw.o.on G.o);have ab:=κ (qc G.o aq.o);have aT:=β7 H.o.blk;rw[aM.o] at aT;cases c with
 | false=>
  go_wp2;go_ret;exact⟨by rw[ae.o];rfl,M1.o.trans G.o⟩
 | true=>
  have aR:=κ (mem_workers.1 (aQ.o rfl));cases ay with
  | true=>
   have O:Hid (s.may (w1,w2)= !((qh s.ret (w1,w2)).getD false)):=κ (by rw[ae.o];rfl);obtain⟨aX,ap⟩:=ν ((qh s.ret (w1,w2)).getD false);rw[ap] at O;have bb:=λ(x:qt w4)=>β8 (qc x.h H.o.blk)
   have ai:=λ(x:qt w4)=>qc x.h ab.o
   have ac:=λx=>β0 (ai x);have ad:=λx=>β1 (ai x);clear ai
   have bd: ∀x:qt w4,(Instr.lookup 87 (.map (some k.M1)) (θ #[ι w1,ι w2]) false).run prog x.w'= .ok (μ aX) x.w':=λx=>by rw[<-ap];exact VH (H.o.retm.more x.h) (w1,w2)
   clear ap
   go_upto_region 4 with fail
   refine Qn w4 8 8 [] ?_
   refine Qq8 ?_
   refine qA ?_;go_wp2;go_ret;exact⟨by rw[O.o];rfl,(M1.o.trans G.o).dr 1⟩
  | false=>
   have O:Hid (s.may (w1,w2)=s.mayOpen (w1,w2)):=κ (by rw[ae.o];rfl);have be:=β0 ab.o;by_cases e0:w1=0
   ·subst e0;have I:Hid (s.may (0,w2)=decide (0<s.queue.length)):=κ (by rw[O.o];unfold RmS.mayOpen;rw[if_pos rfl]);have bf:=β10 H.o.blk;have aN:=κ (Hp H.o)
    go_wp2_with (go_at_call 66;(go_call aN.o as e w5 ⟨rfl,J⟩;have N:=κ J;clear J))
    go_ret;exact⟨qZ (by rw[I.o,Bool.eq_iff_iff]),M1.o.trans (G.o.trans N.o)⟩
   ·by_cases e1:w1=1
    ·subst e1;have I:Hid (s.may (1,w2)=s.ready.isSome):=κ (by rw[O.o];unfold RmS.mayOpen;rw[if_neg η,if_pos rfl]);have ag:=κ (Al H.o aO.o);obtain⟨aW,aD⟩:=ν (s.readyO);obtain⟨bl,ao⟩:=ν (s.ready.isSome);rw[aD,ao] at ag;rw[ao] at I;clear aD ao;obtain⟨bj,bk⟩:=aW;simp only at ag
     go_wp2_with (go_at_call 73;(go_call ag.o as e w5 ⟨rfl,J⟩;have N:=κ J;clear J))
     go_ret;exact⟨by rw[I.o];rfl,(M1.o.trans (G.o.trans N.o)).al _⟩
    ·have aV:(w1=2∨w1=3∨w1=4)/\(qh s.lanes w2).isSome=true:=by
      rcases aR.o with e | e | e
      ·injection e with e3 e4
       exact absurd e3 e0
      ·injection e with e3 e4
       exact absurd e3 e1
      ·exact⟨e.1,e.2.2⟩
     obtain⟨aG,aH⟩:=aV;obtain⟨l,an⟩:=Option.isSome_iff_exists.1 aH;obtain⟨p,aC,az⟩:=H.o.laneAt an;have I:Hid (s.may (w1,w2)=vC l (xB w1)):=κ (by rw[O.o];unfold RmS.mayOpen;simp only[if_neg e0,if_neg e1,an]);have aF:xB w1=1∨xB w1=2∨xB w1=3:=by rcases aG with rfl | rfl | rfl<;>decide
     obtain⟨aY,aE⟩:=ν (xB w1);have au:=κ (λw'=>Z4 w1 w2 w');have af:=κ (λw' (m:qa w4 w')=>Iv (az.on m) (xB w1) aF);rw[aE] at au af I;obtain⟨bi,aA⟩:=ν (vC l aY);rw[aA] at af I;have aP:=κ aC;have bg:(w1==0)=false:=by simpa using e0
     have bh:(w1==1)=false:=by simpa using e1
     clear aE aA aF az an aH aG e0 e1 aC
     go_upto_region 11 with fail
     have ba:=λ(x:qt w4)=>β12 (qc x.h H.o.blk)
     have aj:=λ(x:qt w4)=>qc x.h ab.o
     have ac:=λx=>β0 (aj x);have ad:=λx=>β1 (aj x);clear aj
     have bc: ∀x:qt w4,(Instr.lookup 90 (.map (some k.ML)) (ι w2) false).run prog x.w'= .ok (γ p) x.w':=λx=>by
      have:=xq (H.o.lnm.more x.h) w2 false;rw[aP.o] at this;exact this
     refine Qn w4 11 11 [8,9] ?_
     refine Qq8 ?_
     (refine Ql ?_;intro K d)
     go_call au.o _ as e w5 ⟨rfl,J⟩;have N:Hid (qa w4 w5):=κ ((qa.drewN w4 1).trans J);clear J;refine⟨_,rfl,qk N.o,d _ _ ?_⟩;clear d K
     (refine Ql ?_;intro K d)
     go_call af.o _ N.o as e w6 ⟨rfl,aL⟩;have ak:Hid (qa w4 w6):=κ (N.o.trans aL);clear aL;refine⟨_,rfl,qk ak.o,d _ _ ?_⟩;clear d K
     iterate 1 (refine qE rfl rfl (qk ak.o) ?_;intro K d;go_big_quiet_op;go_big_quiet_on)
     refine qA ?_;go_wp2;go_ret;exact⟨by rw[I.o];rfl,M1.o.trans (G.o.trans ak.o)⟩
end
theorem Ev {b:Jb} (d:JOK b) (G:Int):JOK (yD b G).1:=by
 unfold yD;cases hb:b.holds with
 | nil=>exact d
 | cons h T=>
  simp only;split
  ·exact VL d hb
  ·exact d
theorem Ew {b:Jb} {d:Int} (h:xa b d=true): ∃x∈b.holds,(yD b d).2.2.1=x.2.2:=by
 unfold yD;cases hb:b.holds with
 | nil=>unfold xa at h;rw[hb] at h;cases h
 | cons x L=>
  simp only[h,if_true];exact⟨x,List.mem_cons_self,rfl⟩
theorem Fh (s:RmS) (o:Og) (i:Nat) {a:AcS} (h:s.pks.getD i ac0=a):s.item o (i:Int)=⟨i,o.2,zJ a.pk.pl,a.pk⟩:=by
 unfold RmS.item;rw[Int.toNat_natCast,h]
theorem GZ (d:ItS) {s:RmS} (h: ∀y i,qh s.book (y,i)=some 0->(qh s.lanes y).isSome=true) (x:Int): ∀y i,qh (s.put1 d x).book (y,i)=some 0->(qh (s.put1 d x).lanes y).isSome=true:=by
 intro y i;unfold RmS.put1;split
 ·cases hl:qh s.lanes x with
  | none=>exact h y i
  | some l=>
   have G:(qh s.lanes y).isSome=true->(qh (qx s.lanes x (xp l d).1) y).isSome=true:=λe=>by
    rw[qF];split
    ·rfl
    ·exact e
   simp only;split
   ·intro e;refine G (h y i ?_);simp only at e;rw[ye _ _ _ _ ζ] at e;split at e
    ·cases e
    ·exact e
   ·exact λe=>G (h y i e)
 ·exact h y i
theorem ZD (d:ItS): ∀(L:List Int) {s:RmS},(∀y i,qh s.book (y,i)=some 0->(qh s.lanes y).isSome=true)-> ∀y i,qh (L.foldl (RmS.put1 d) s).book (y,i)=some 0->(qh (L.foldl (RmS.put1 d) s).lanes y).isSome=true
 | [],_,h=>h
 | x::L,_,h=>ZD d L (GZ d h x)
section
variable {T:Nat->Tg} {w0 w w':World} {k:RmK} {vp vr:Value} {s:RmS} {F:List Nat}
theorem Lg (dE:qI w0 w k s F) (bw:Ia s) (w1 w2:Int) (acc:Bool):
  Calls prog 80 #[γ k.R,θ #[ι w1,ι w2],acc] w λe w'=>e= .returned (.tuple #[])/\qI w0 w' k s.order F/\qw F w w':=by
 obtain⟨T,vp,dL,h⟩:=dE;obtain⟨W1,aH⟩:=ν (w.alloc (.cells #[ι w1,ι w2] 37));have bR:Hid (qa w W1):=κ (by rw[<-aH];exact qa.alloc _ _);have aE:=κ (h.on bR.o);have bT:=κ (h.at.stay bR.o);have aN:=κ bw;have aT:=κ (Al aE.o bw.clock);clear h bw;obtain⟨cy,bc⟩:=ν (s.ready);have aR:=κ bc;have e0:s.readyO=cy.getD (0,0):=by unfold RmS.readyO;rw[bc]
 rw[bc,e0] at aT;clear bc e0;cases cy with
 | none=>
  have bk:Hid (s.order=s):=κ (by unfold RmS.order;rw[aR.o])
  go_enter func80,ntmps80
  go_upto_region 1 with fail
  (try rw[aH])
  clear aH
  go_wp2_with (go_at_call 73;(go_call aT.o as e G ⟨rfl,aL⟩;have aF:=κ aL;clear aL))
  (refine bodyPost_ret (v:= .tuple #[]) ?re2 rfl ?_;(case re2=>simp[results,results80,go_sem]))
  exact⟨rfl,by rw[bk.o];exact(aE.o.on (aF.o.al _)).at,bT.o.trans (aE.o.at.stay (aF.o.al _))⟩
 | some o=>
  obtain⟨ao,o2⟩:=o;simp only[Option.getD_some,Option.isSome_some] at aT;have ca:=List.mem_of_find?_eq_some aR.o;have bb:s.readyAt (ao,o2)=true:=List.find?_some aR.o;obtain⟨t,aw⟩:=yB ca;have cf:xa t.buf s.clock=true:=by
   unfold RmS.readyAt at bb;rw[aw] at bb;exact bb
  have aU:=κ aw;have cV:=κ cf;clear ca bb aw cf;have bk:Hid (s.order=s.orderAt (ao,o2) t):=κ (by unfold RmS.order;rw[aR.o];simp only[aU.o])
  go_enter func80,ntmps80
  go_upto_region 1 with fail
  (try rw[aH])
  clear aH
  go_upto_region 3 with (go_at_call 73;(go_call aT.o as e G ⟨rfl,aL⟩;have aF:=κ aL;clear aL))
  obtain⟨Y,aX⟩:=ν (G.alloc (.cells #[ι ao,ι o2] 58));have bS:Hid (qa W1 Y):=κ (by rw[<-aX];exact aF.o.al _);have bg:Hid (Y.heap[G.heap.size]? =some (.cells #[ι ao,ι o2] 58 (0,0))):=κ (by rw[<-aX];exact qj _ _);have ch:W1.heap.size<=G.heap.size:=aF.o.size;have am:RmX T w0 Y k vp dL s ([G.heap.size]++F):=aE.o.adds bS.o (λb ac=>by simp at ac;subst ac;exact⟨ch,qn bg.o⟩)
  (try rw[aX])
  clear aX;have aV:=κ am;obtain⟨bE,ab,vb,cd,ar⟩:=am.strAt aU.o;have bP:=κ cd;have au:=κ ar;have cr:k.R≠ab:=λe=>by have:=ar.nb;rw[<-e,(am.all .room).1] at this;cases this
  have ct: ¬vb.ownBlock=some k.R:=λe=>by have:=(ar.nv _ e).1;rw[(am.all .room).1] at this;cases this
  have cq: ¬(k.R=ab∨vb.ownBlock=some k.R):=λe=>e.elim cr ct
  have cl:k.MS≠ab:=λe=>by have:=ar.nb;rw[<-e,(am.all .sts).1] at this;cases this
  have cm: ¬vb.ownBlock=some k.MS:=λe=>by have:=(ar.nv _ e).1;rw[(am.all .sts).1] at this;cases this
  have ck: ¬(k.MS=ab∨vb.ownBlock=some k.MS):=λe=>e.elim cl cm
  have co:G.heap.size≠ab:=λe=>by have:=ar.nb;rw[<-e,(am.law G.heap.size η).1] at this;cases this
  have cp: ¬vb.ownBlock=some G.heap.size:=λe=>by have:=(ar.nv _ e).1;rw[(am.law G.heap.size η).1] at this;cases this
  have cn: ¬(G.heap.size=ab∨vb.ownBlock=some G.heap.size):=λe=>e.elim co cp
  have cu: ¬(bE=ab∨vb.ownBlock=some bE):=λe=>e.elim (λe=>au.o.ne e) (λe=>(au.o.nv _ e).2 rfl)
  have bp:=λ(x:qz (λb=>b=ab∨vb.ownBlock=some b) Y)=>x.h.blk aV.o.blk cq
  have cI:=λx=>β13 (bp x);have cJ:=λx=>β9 (bp x);clear bp
  have bq:=λ(x:qz (λb=>b=ab∨vb.ownBlock=some b) Y)=>x.h.blk bg.o cn
  have cL:=λx=>β0 (bq x);have cM:=λx=>β1 (bq x);clear bq
  have cK:=λ(x:qz (λb=>b=ab∨vb.ownBlock=some b) Y)=>β0 (x.h.blk au.o.blk cu)
  have bh: ∀x:qz (λb=>b=ab∨vb.ownBlock=some b) Y,(Instr.lookup 91 (.map (some k.MS)) (θ #[ι ao,ι o2]) false).run prog x.w'= .ok (γ bE) x.w':=λx=>by
   have:=ya (aV.o.stm.away x.h ck) (ao,o2) false;rw[bP.o] at this;exact this
  clear am cd ar ch cr ct cl cm co cp;refine QN (λb=>b=ab∨vb.ownBlock=some b) Y 21 21 [13] ?_
  refine NE ?_
  (refine Ql ?_;intro K d)
  obtain⟨id,aZ⟩:=ν ((yD t.buf s.clock).2.2.1);have cP:=κ aZ
  have bN:Hid (0<=id/\id<(s.pks.length:Int)):=κ (by
   obtain⟨x,dJ,e⟩:=Ew cV.o;rw[<-aZ,e]
   exact aN.o.ids _ _ aU.o x dJ)
  obtain⟨H,dF⟩:=Int.eq_ofNat_of_zero_le bN.o.1;subst dF;have dG:H<s.pks.length:=by have:=bN.o.2;omega
  have aQ:=κ (FJ t.buf au.o.ok ab vb s.clock aN.o.clock _ (au.o.buf.on (qa.drewN Y 1)));rw[aZ] at aQ;clear aZ
  (with_reducible refine aQ.o.mono ?_)
  rintro e w5 ⟨rfl,v5,st⟩;have bI:Hid (qg (λb=>b=ab∨vb.ownBlock=some b) Y w5):=κ (((qg.refl _ Y).drewN 1).trans st.away);have aA:=κ ((aV.o.on (qa.drewN Y 1)).strBuf aU.o bP.o (au.o.on (qa.drewN Y 1)) st (Ev au.o.ok s.clock));have bs:=κ ((aV.o.at.stay (qa.drewN Y 1)).trans aA.o.2);clear st;refine⟨_,rfl,qi bI.o,d _ _ ?_⟩;clear d K
  iterate 7 (refine qE rfl rfl (qi bI.o) ?_;intro K d;go_big_quiet_op;go_big_quiet_on)
  refine qA ?_;clear cI cJ cL cM cK bh cq ck cn cu;obtain⟨ad,bd⟩: ∃ad:RmS,{s with strs:=qx s.strs (ao,o2) {t with buf:=(yD t.buf s.clock).1}}=ad:=⟨_,rfl⟩;have bQ:=κ bd;rw[bd] at aA;have aO:Hid (ad.pks=s.pks):=κ (by rw[<-bd]);have bv:H<ad.pks.length:=by rw[aO.o];exact dG
  obtain⟨dM,dT,dV,bG⟩:=aA.o.1;obtain⟨g,cap,os,N,O,J,ke,I,rfl,dS,dP,bX,cg⟩:=bG.pkRow bv;have dA:=κ bG;have aS:=κ cg;have bM:=κ bX;have dR:(ad.pks.length:Int)=s.pks.length:=by rw[aO.o]
  clear bd bG cg bX;obtain⟨a,aI⟩:=ν (ad.pks[H]);have bL:=κ aI;simp only[aI] at aS bM;clear aI;have dC:=β14 dA.o.blk
  have cU:Hid (w5.rangeAt g (H* 13+3) (Γh a.pk os J N ke O I)):=κ (λj v dI=>by
   rw[Nat.add_assoc]
   exact bM.o (3+j) v (by rw[Nat.add_comm];exact dI))
  go_upto_region 5 with (refine wpList_load_mid rfl 63 (.tmp 48) rfl g (H* 13+3) rfl (Γh a.pk os J N ke O I) _ cU.o underlying63 rfl ξ ?_)
  obtain⟨W6,aY⟩:=ν (w5.alloc (.cells (Γh a.pk os J N ke O I) 63));have ak:Hid (qa w5 W6):=κ (by rw[<-aY];exact qa.alloc _ _);have cD:Hid (W6.heap[w5.heap.size]? =some (.cells (Γh a.pk os J N ke O I) 63 (0,0))):=κ (by rw[<-aY];exact qj _ _);have cG:=κ (bs.o.blk η bg.o)
  (try rw[aY])
  clear aY dC;have dx:=κ aS.o.pk;have aP:=κ (aN.o.pkok a (by rw[<-bL.o];rw[<-aO.o];exact List.getElem_mem bv));obtain⟨af,bx⟩:=ν (zJ a.pk.pl);have bj:=κ (λw' (m:qa w5 w')=>Jg _ a.pk.pl w' (dx.o.l.keep m) aP.o.1.pl aP.o.2.l);rw[bx] at bj;have cQ:=κ bx;clear bx;obtain⟨U,bZ⟩: ∃U:ItS,(⟨H,o2,af,a.pk⟩:ItS)=U:=⟨_,rfl⟩;have aM:=κ bZ;clear bZ
  have cO:Hid (s.orderAt (ao,o2) t=subIds.foldl (RmS.put1 U) ad):=κ (by
   have aI:s.pks.getD H ac0=a:=by
    rw[<-aO.o,List.getD_eq_getElem?_getD,List.getElem?_eq_getElem bv];exact bL.o
   unfold RmS.orderAt
   rw[cP.o,bQ.o,Fh s (ao,o2) H aI,<-aM.o,<-cQ.o])
  have cT:Hid (∀y i,qh ad.book (y,i)=some 0->(qh ad.lanes y).isSome=true):=κ (by rw[<-bQ.o];exact aN.o.owes);have dz:Hid (qw F w Y):=κ (bT.o.trans (aE.o.at.stay bS.o));have dk:=λ(x:qt W6)=>β1 (qc (ak.o.trans x.h) cG.o)
  have ah:=λ(x:qt W6)=>qc x.h cD.o
  have dl:=λx=>β0 (ah x);have dm:=λx=>β1 (ah x);have dn:=λx=>β2 (ah x);have dp:=λx=>β3 (ah x);have dq:=λx=>β4 (ah x);have ds:=λx=>β5 (ah x);have dt:=λx=>β6 (ah x);have du:=λx=>β7 (ah x);have dv:=λx=>β8 (ah x);have dw:=λx=>β9 (ah x);clear ah
  go_cut [12] from 50 to 90 (λv bF=> ∃A:Nat,v= γ A/\RmP (acC a (δ os a.pk.ss.length J) (δ N a.pk.ex.length ke) (δ O a.pk.pl.length I)) a w0 bF k ad ([A]++([G.heap.size]++F))/\qw ([G.heap.size]++F) Y bF/\bF.heap[A]? =some (.cells #[ι H,ι o2,af,a.pk.mr,υ a.pk.ty,φ a.pk.sq,ω a.pk.st,ω a.pk.sc,δ os a.pk.ss.length J,a.pk.has,φ a.pk.pr,δ N a.pk.ex.length ke,δ O a.pk.pl.length I] 253 (0,0)))
  case first=>
   refine zB W6 9 (.op 0 false (.op 1 false (.op 2 false (.op 3 false (.op 4 false (.op 6 false (.br [5,8] λk=>if k=5 then .op 7 false (.op 8 true (.op 9 true (.done))) else .op 5 true (.op 7 false (.op 9 true (.done)))))))))) ξ ξ ?_
   repeat (first | (refine jg rfl rfl (qk ρ) ?_) | (refine qH rfl rfl (qk ρ) ?_;intro K d;go_big_quiet_op;go_big_quiet_on))
   refine wP ζ ?_ ?_
   ·(refine qO rfl rfl ?_;intro K d;unfold jn;go_simp)
    refine(bj.o _ (ak.o.trans (qa.drewN W6 1))).mono ?_;rintro e w8 ⟨rfl,cj⟩;have ai:Hid (qa W6 w8):=κ ((qa.drewN W6 1).trans cj);clear cj;refine⟨_,rfl,qk ai.o,d _ _ ?_⟩;clear d K
    repeat (first | (refine jg rfl rfl (qk ai.o) ?_) | (refine qH rfl rfl (qk ai.o) ?_;intro K d;go_big_quiet_op;go_big_quiet_on))
    (refine qO rfl rfl ?_;intro K d;unfold jn;go_simp)
    refine⟨qk (ai.o.al _),d _ _ ?_⟩;clear d K;obtain⟨w9,bf⟩:=ν (w8.alloc (.cells Γa 253));obtain⟨A,an⟩:=ν (w8.heap.size);have az:Hid (w9.heap[A]? =some (.cells Γa 253 (0,0))):=κ (by rw[<-bf,<-an];exact qj w8 _);have aq:Hid (qa W6 w9):=κ (by rw[<-bf];exact ai.o.al _);have ay:Hid (W6.heap.size<=A):=κ (by rw[<-an];exact ai.o.size)
    (try rw[bf])
    (try rw[an])
    clear bf an
    repeat (first | (refine jg rfl rfl (qk aq.o) ?_) | (refine qH rfl rfl (qk aq.o) ?_;intro K d;go_big_quiet_op;go_big_quiet_on))
    refine qO rfl rfl ?_;intro K d;have ae:=κ (aq.o.row ay.o #[ι H,ι o2,af,a.pk.mr,υ a.pk.ty,φ a.pk.sq,ω a.pk.st,ω a.pk.sc,δ os a.pk.ss.length J,a.pk.has,φ a.pk.pr,δ N a.pk.ex.length ke,δ O a.pk.pl.length I]);have aj:=κ (jM az.o #[ι H,ι o2,af,a.pk.mr,υ a.pk.ty,φ a.pk.sq,ω a.pk.st,ω a.pk.sc,δ os a.pk.ss.length J,a.pk.has,φ a.pk.pr,δ N a.pk.ex.length ke,δ O a.pk.pl.length I]);refine xw 253 (.tmp 12) (.tmp 57) rfl A 253 _ #[ι H,ι o2,af,a.pk.mr,υ a.pk.ty,φ a.pk.sq,ω a.pk.st,ω a.pk.sc,δ os a.pk.ss.length J,a.pk.has,φ a.pk.pr,δ N a.pk.ex.length ke,δ O a.pk.pl.length I] az.o rfl rfl ξ rfl (by simp[Value.oneCell']) ?_;refine⟨qk ae.o,d _ _ ?_⟩;clear d K
    repeat (first | (refine jg rfl rfl (qk ae.o) ?_) | (refine qH rfl rfl (qk ae.o) ?_;intro K d;go_big_quiet_op;go_big_quiet_on))
    refine zg ?_;obtain⟨bt,av⟩:=ν (w9.setRow A #[ι H,ι o2,af,a.pk.mr,υ a.pk.ty,φ a.pk.sq,ω a.pk.st,ω a.pk.sc,δ os a.pk.ss.length J,a.pk.has,φ a.pk.pr,δ N a.pk.ex.length ke,δ O a.pk.pl.length I]);rw[av] at ae aj
    (try rw[av])
    clear av;have aC:Hid (RmP (acC a (δ os a.pk.ss.length J) (δ N a.pk.ex.length ke) (δ O a.pk.pl.length I)) a w0 bt k ad ([A]++([G.heap.size]++F))):=κ (aS.o.adds (ak.o.trans ae.o) (λb ac=>by simp at ac;subst ac;exact⟨Nat.le_trans ak.o.size ay.o,qn aj.o⟩));have aG:=κ (bs.o.trans (aA.o.1.stay (ak.o.trans ae.o)));go_wp2;go_meet;exact⟨_,rfl,aC.o,aG.o,aj.o⟩
   ·(refine qO rfl rfl ?_;intro K d;unfold jn;go_simp)
    refine⟨qk ((qa.drewN W6 1).al _),d _ _ ?_⟩;clear d K;obtain⟨w8,be⟩:=ν ((W6.drewN 1).alloc (.cells Γa 253));obtain⟨A,an⟩:=ν (W6.heap.size);have cE:Hid (w8.heap[A]? =some (.cells Γa 253 (0,0))):=κ (by rw[<-be,<-an];exact qj (W6.drewN 1) _);have ai:Hid (qa W6 w8):=κ (by rw[<-be];exact(qa.drewN W6 1).al _);have ay:Hid (W6.heap.size<=A):=κ (by rw[<-an];exact(qa.drewN W6 1).size)
    (try rw[be])
    (try rw[an])
    clear be an
    repeat (first | (refine jg rfl rfl (qk ai.o) ?_) | (refine qH rfl rfl (qk ai.o) ?_;intro K d;go_big_quiet_op;go_big_quiet_on))
    (refine qO rfl rfl ?_;intro K d;unfold jn;go_simp)
    refine(bj.o _ (ak.o.trans ai.o)).mono ?_;rintro e w9 ⟨rfl,bD⟩;have aq:=κ (ai.o.trans bD);have az:=κ (qc bD cE.o);clear bD;refine⟨_,rfl,qk aq.o,d _ _ ?_⟩;clear d K
    repeat (first | (refine jg rfl rfl (qk aq.o) ?_) | (refine qH rfl rfl (qk aq.o) ?_;intro K d;go_big_quiet_op;go_big_quiet_on))
    refine qO rfl rfl ?_;intro K d;have ae:=κ (aq.o.row ay.o #[ι H,ι o2,af,a.pk.mr,υ a.pk.ty,φ a.pk.sq,ω a.pk.st,ω a.pk.sc,δ os a.pk.ss.length J,a.pk.has,φ a.pk.pr,δ N a.pk.ex.length ke,δ O a.pk.pl.length I]);have aj:=κ (jM az.o #[ι H,ι o2,af,a.pk.mr,υ a.pk.ty,φ a.pk.sq,ω a.pk.st,ω a.pk.sc,δ os a.pk.ss.length J,a.pk.has,φ a.pk.pr,δ N a.pk.ex.length ke,δ O a.pk.pl.length I]);refine xw 253 (.tmp 12) (.tmp 57) rfl A 253 _ #[ι H,ι o2,af,a.pk.mr,υ a.pk.ty,φ a.pk.sq,ω a.pk.st,ω a.pk.sc,δ os a.pk.ss.length J,a.pk.has,φ a.pk.pr,δ N a.pk.ex.length ke,δ O a.pk.pl.length I] az.o rfl rfl ξ rfl (by simp[Value.oneCell']) ?_;refine⟨qk ae.o,d _ _ ?_⟩;clear d K
    repeat (first | (refine jg rfl rfl (qk ae.o) ?_) | (refine qH rfl rfl (qk ae.o) ?_;intro K d;go_big_quiet_op;go_big_quiet_on))
    refine zg ?_;obtain⟨bt,av⟩:=ν (w9.setRow A #[ι H,ι o2,af,a.pk.mr,υ a.pk.ty,φ a.pk.sq,ω a.pk.st,ω a.pk.sc,δ os a.pk.ss.length J,a.pk.has,φ a.pk.pr,δ N a.pk.ex.length ke,δ O a.pk.pl.length I]);rw[av] at ae aj
    (try rw[av])
    clear av;have aC:Hid (RmP (acC a (δ os a.pk.ss.length J) (δ N a.pk.ex.length ke) (δ O a.pk.pl.length I)) a w0 bt k ad ([A]++([G.heap.size]++F))):=κ (aS.o.adds (ak.o.trans ae.o) (λb ac=>by simp at ac;subst ac;exact⟨Nat.le_trans ak.o.size ay.o,qn aj.o⟩));have aG:=κ (bs.o.trans (aA.o.1.stay (ak.o.trans ae.o)));go_wp2;go_meet;exact⟨_,rfl,aC.o,aG.o,aj.o⟩
  case rest=>
  obtain⟨A,rfl,cb,cz,bW⟩:=hcut;have aC:=κ cb;have aG:=κ cz;have aj:=κ bW;clear dk dl dm dn dp dq ds dt du dv dw cb cz bW;go_wp2
  go_loopw [58] (λbC wr=> ∃j:Nat,j<=6/\bC= ι j/\RmP (acC a (δ os a.pk.ss.length J) (δ N a.pk.ex.length ke) (δ O a.pk.pl.length I)) a w0 wr k ((subIds.take j).foldl (RmS.put1 U) ad) ([A]++([G.heap.size]++F))/\qw ([A]++([G.heap.size]++F)) wc wr) (λbC _=>6-(intOf bC).toNat)
  case atStart=>exact⟨0,τ,rfl,aC.o,qw.refl _ _⟩
  case round=>
   obtain⟨j,dQ,rfl,ce,aw⟩:=hrel;have aD:=κ ce;have bo:=κ aw;have cF:=κ (aw.blk η aj.o);clear aw;by_cases hlt:j<6
   ·have dH:(j:Int)<6:=by omega
    have bn:=κ (QW hlt);have cS:=κ (ZD U (subIds.take j) cT.o);generalize ci:(subIds.take j).foldl (RmS.put1 U) ad=sj at *;have bm:=κ ci;clear ci;obtain⟨dN,dU,dW,ax,_⟩:=ce;have dB:=β0 ax.blk;have bl:=κ (Hs ax.bok (j:Int) (H:Int));obtain⟨dK,aJ⟩:=ν (decide (qh sj.book ((j:Int),(H:Int))=some 0));rw[aJ] at bl;cases dK with
    | false=>
     have aB:Hid (sj.put1 U (j:Int)=sj):=κ (by unfold RmS.put1;rw[<-aM.o];exact if_neg (of_decide_eq_false aJ));clear aJ ax
     go_wp2_with (go_at_call 135;(go_call bl.o as e ag ⟨rfl,aK⟩;have ap:=κ aK;clear aK))
     go_roundw
     case rel=>exact⟨j+1,τ,by go_num,by rw[bn.o,List.foldl_append,bm.o];show RmP _ a w0 _ k (sj.put1 U (j:Int)) _;rw[aB.o];exact aD.o.on ap.o,bo.o.trans (aD.o.at.stay ap.o)⟩
     case measure=>simp[intOf];omega
    | true=>
     have bB:qh sj.book ((j:Int),(H:Int))=some 0:=of_decide_eq_true aJ;obtain⟨l,ba⟩:=Option.isSome_iff_exists.1 (cS.o (j:Int) (H:Int) bB);obtain⟨pl,cc,_⟩:=ax.laneAt ba;have aB:Hid (sj.put1 U (j:Int)=if (xp l U).2.2.1 then {sj with lanes:=qx sj.lanes (j:Int) (xp l U).1,book:=jp sj.book (j:Int) (xp l U).2.1 6} else {sj with lanes:=qx sj.lanes (j:Int) (xp l U).1}):=κ (by unfold RmS.put1;rw[if_pos (by rw[<-aM.o];exact bB),ba]);have cR:=κ ba;have bO:=κ cc;have aW:=κ ax;clear aJ ax bB ba cc
     go_upto_region 10 with (go_at_call 135;(go_call bl.o as e ag ⟨rfl,aK⟩;have ap:=κ aK;clear aK))
     have dO:A≠k.R:=λe=>by have:=(aW.o.law A η).1;rw[e,(aW.o.all .room).1] at this;cases this
     have cH:=λ(x:qz (λb=>b≠k.R/\b≠k.ML/\b∉[A]++([G.heap.size]++F)) ag)=>β12 (x.h.blk (qc ap.o aW.o.blk) (λc=>c.1 rfl))
     have bh: ∀x:qz (λb=>b≠k.R/\b≠k.ML/\b∉[A]++([G.heap.size]++F)) ag,(Instr.lookup 90 (.map (some k.ML)) (ι (j:Int)) false).run prog x.w'= .ok (γ pl) x.w':=λx=>by
      have:=xq ((aW.o.lnm.more ap.o).away x.h (λc=>c.2.1 rfl)) (j:Int) false;rw[bO.o] at this;exact this
     have bJ: ∀x:qz (λb=>b≠k.R/\b≠k.ML/\b∉[A]++([G.heap.size]++F)) ag,x.w'.heap[A]? =some (.cells #[ι H,ι o2,af,a.pk.mr,υ a.pk.ty,φ a.pk.sq,ω a.pk.st,ω a.pk.sc,δ os a.pk.ss.length J,a.pk.has,φ a.pk.pr,δ N a.pk.ex.length ke,δ O a.pk.pl.length I] 253 (0,0)):=λx=>x.h.blk (qc ap.o cF.o) (λc=>c.2.2 η)
     have aa:=λ(x:qz (λb=>b≠k.R/\b≠k.ML/\b∉[A]++([G.heap.size]++F)) ag)=>bJ x
     have cX:=λx=>β0 (aa x);have cY:=λx=>β1 (aa x);have dc:=λx=>β2 (aa x);have dd:=λx=>β3 (aa x);have de:=λx=>β4 (aa x);have df:=λx=>β5 (aa x);have dg:=λx=>β6 (aa x);have dh:=λx=>β7 (aa x);have di:=λx=>β8 (aa x);have dj:=λx=>β9 (aa x);have cZ:=λx=>β10 (aa x);have da:=λx=>β11 (aa x);have db:=λx=>β12 (aa x);clear aa
     refine QN (λb=>b≠k.R/\b≠k.ML/\b∉[A]++([G.heap.size]++F)) ag 15 15 [7] ?_
     refine Qs7 ?_
     (refine Ql ?_;intro K d)
     obtain⟨l',bz⟩: ∃l',(xp l U).1=l':=⟨_,rfl⟩;obtain⟨cv,bA⟩:=ν ((xp l U).2.1);obtain⟨dr,bu⟩:=ν ((xp l U).2.2.1);obtain⟨dD,bY⟩:=ν ((xp l U).2.2.2)
     have aQ:Hid (Calls prog 136 #[γ pl,θ #[ι H,ι o2,af,a.pk.mr,υ a.pk.ty,φ a.pk.sq,ω a.pk.st,ω a.pk.sc,δ os a.pk.ss.length J,a.pk.has,φ a.pk.pr,δ N a.pk.ex.length ke,δ O a.pk.pl.length I]] (ag.drewN 1) λe w'=>e= .returned (.tuple #[ι cv,dr,ι dD])/\
       RmP (acC a (δ os a.pk.ss.length J) (δ N a.pk.ex.length ke) (δ O a.pk.pl.length I)) a w0 w' k {sj with lanes:=qx sj.lanes (j:Int) l'} ([A]++([G.heap.size]++F))/\qw ([A]++([G.heap.size]++F)) (ag.drewN 1) w'/\qg (λb=>b≠k.R/\b≠k.ML/\b∉[A]++([G.heap.size]++F)) (ag.drewN 1) w'):=κ (by
      rw[<-bz,<-bA,<-bu,<-bY,<-aM.o];have h:=(aD.o.on ap.o).on (qa.drewN ag 1)
      exact Mz h ⟨H,o2,af,a.pk⟩ os N O J ke I h.pk aP.o.1 aP.o.2 cR.o bO.o)
     rw[bz,bA,bu] at aB;clear bz bA bu bY
     (with_reducible refine aQ.o.mono ?_)
     rintro e cC ⟨rfl,cw,cA,bV⟩;have bi:=κ cw;have bU:Hid (qw ([A]++([G.heap.size]++F)) wc cC):=κ (bo.o.trans ((aD.o.at.stay (ap.o.dr 1)).trans cA));have bH:Hid (qg (λb=>b≠k.R/\b≠k.ML/\b∉[A]++([G.heap.size]++F)) ag cC):=κ (((qg.refl _ ag).drewN 1).trans bV);clear cw cA bV;refine⟨_,rfl,qi bH.o,d _ _ ?_⟩;clear d K
     iterate 7 (refine qE rfl rfl (qi bH.o) ?_;intro K d;go_big_quiet_op;go_big_quiet_on)
     refine qA ?_;clear cH bh bJ cX cY dc dd de df dg dh di dj cZ da db;cases dr with
     | false=>
      go_wp2;go_roundw
      case rel=>exact⟨j+1,τ,by go_num,by rw[bn.o,List.foldl_append,bm.o];show RmP _ a w0 _ k (sj.put1 U (j:Int)) _;rw[aB.o];exact bi.o,bU.o⟩
      case measure=>simp[intOf];omega
     | true=>
      obtain⟨_,_,bK⟩:=bi.o.at.blk;have dB:=β0 bK;clear bK;have cW:=κ (CD bi.o (j:Int) cv 6)
      go_wp2_with (go_at_call 122;(go_call cW.o as e dX ⟨rfl,cx,cB⟩;have cN:=κ cx;have dy:=κ cB;clear cx cB))
      go_roundw
      case rel=>exact⟨j+1,τ,by go_num,by rw[bn.o,List.foldl_append,bm.o];show RmP _ a w0 _ k (sj.put1 U (j:Int)) _;rw[aB.o];exact cN.o,bU.o.trans dy.o⟩
      case measure=>simp[intOf];omega
   ·obtain rfl:j=6:=by omega
    have dH: ¬((6:Nat):Int)<6:=by omega
    go_wp2
    (refine bodyPost_end (v:= .tuple #[]) ?re1 rfl ?_;(case re1=>simp[results,results80,go_sem]))
    exact⟨rfl,by rw[bk.o,cO.o];have h:=aD.o.at;exact h.sub (λb ac=>by simp[ac]),dz.o.trans ((aG.o.sub (λb ac=>by simp[ac])).trans (bo.o.sub (λb ac=>by simp[ac])))⟩
end
theorem qV.rd {n:Nat} {s:RmS} (h:qV n s) (af:n<=10000):Ia s:=by
 have Y:=h.num.malf;have aa:=h.num.told;have ab:=h.num.strange;have ac:=h.num.acc;have ad:=h.num.pks;have ae:=h.num.clock;refine⟨⟨h.tb.keys,h.tb.lane,Nat.le_trans h.num.few τ⟩,λx U a b m J=>by rw[h.tb.str _ _ J];exact h.tb.pub x U a b,τ,τ,τ,τ,τ,⟨τ,τ⟩,λo t H=>⟨λd=> ?_,λsq N=> ?_⟩,h.tb.org,λb G=>⟨(h.num.queue b G).1,by have:=(h.num.queue b G).2;omega⟩,λo t H x O=>h.ow.few o t H _ (List.mem_map.2 ⟨x,O,rfl⟩),λa d=>⟨(h.num.pkok a d).1,(h.num.pkok a d).2.1⟩,λx id G=> ?_⟩
 ·have:=h.num.great o t H d;exact⟨τ,τ⟩
 ·have:=WS (n:=n) N (h.num.great o t H);exact⟨τ,τ⟩
 ·obtain⟨l,I,_⟩:=h.ow.src x id G;rw[I];rfl
section
variable {T:Nat->Tg} {w0 w w':World} {k:RmK} {vp vr:Value} {s:RmS} {F:List Nat}
theorem Hq {n:Nat} (aG:qI w0 w k s F) (au:qV n s) (av:n<=10000) (w1 w2:Int) (acc:Bool):
  Calls prog 31 #[γ k.R,θ #[ι w1,ι w2],acc] w λe w'=>e= .returned (μ (s.pick (w1,w2) acc).2)/\qI w0 w' k (s.pick (w1,w2) acc).1 F/\qw F w w':=by
 obtain⟨T,vp,aL,h⟩:=aG;obtain⟨W1,J⟩:=ν (w.alloc (.cells #[ι w1,ι w2] 37));have az:Hid (qa w W1):=κ (by rw[<-J];exact qa.alloc _ _);have am:Hid (W1.heap[w.heap.size]? =some (.cells #[ι w1,ι w2] 37 (0,0))):=κ (by rw[<-J];exact qj w _);have I:=κ (h.on az.o);have af:=κ (h.at.stay az.o);have ap:=κ au;have aq:=κ (au.rd av);obtain⟨c,ar⟩:=ν (s.may (w1,w2));obtain⟨aA,aB⟩:=ν (s.closed);have ad:=κ (LI I.o aq.o.clock w1 w2);rw[ar] at ad;have an:=κ ar;have ac:=κ aB;have ah:=β0 am.o;have ai:=β1 am.o;have ax:=κ av;clear h ar aB au av;cases c with
 | false=>
  have ao:Hid (s.pick (w1,w2) acc=(s,false)):=κ (by unfold RmS.pick;rw[if_neg (by rw[an.o];decide)]);rw[ao.o]
  go_enter func31,ntmps31
  go_upto_region 1 with fail
  (try rw[J])
  clear J
  go_wp2_with (go_at_call 27;(go_call ad.o as e aj ⟨rfl,d⟩;have G:=κ d;clear d))
  go_ret;exact⟨rfl,(I.o.on G.o).at,af.o.trans (I.o.at.stay G.o)⟩
 | true=>
  have ao:Hid (s.pick (w1,w2) acc=(s.stepW (w1,w2) acc,true)):=κ (by unfold RmS.pick;rw[if_pos an.o]);rw[ao.o]
  have ay:Hid ((w1,w2)∈s.workers/\(if s.closed then !((qh s.ret (w1,w2)).getD false) else s.mayOpen (w1,w2))=true):=κ (by
   have h:=an.o;unfold RmS.may at h;rw[Bool.and_eq_true] at h
   exact⟨of_decide_eq_true h.1,h.2⟩)
  have aJ:(w1=0∨w1=1∨w1=2∨w1=3∨w1=4)/\(2<=w1->(qh s.lanes w2).isSome=true):=by
   rcases mem_workers.1 ay.o.1 with e | e | e
   ·injection e with e3 e4
    exact⟨Or.inl e3,λh=>by omega⟩
   ·injection e with e3 e4
    exact⟨Or.inr (Or.inl e3),λh=>by omega⟩
   ·exact⟨Or.inr (Or.inr e.1),λ_=>e.2.2⟩
  obtain⟨aC,aD⟩:=aJ;have ak:=κ aD;clear aD;have ae: ∀w',qa W1 w'->w'.cell? ⟨k.R,7,none⟩=some (μ aA):=λw' m=>by rw[<-ac.o];exact qb (qc m I.o.blk) 7 rfl
  have ag:=κ ae;have N:=κ (λw' (m:qa W1 w')=>qc m am.o);clear ae;cases aA with
  | true=>
   have U:Hid (s.stepW (w1,w2) acc=s.endW (w1,w2)):=κ (by unfold RmS.stepW;rw[if_pos ac.o]);have aI:=ap.o.num.lost;have aw:=ax.o;have aE:=κ (λw' (m:qa W1 w')=>ME (I.o.at.on m) w1 w2 acc τ ak.o τ);clear aI aw aC
   go_enter func31,ntmps31
   go_upto_region 1 with fail
   (try rw[J])
   clear J
   go_wp2_with (first | (go_at_call 27;(go_call ad.o as e aj ⟨rfl,d⟩;have G:=κ d;have ae:=ag.o _ d;have ah:=β0 (N.o _ d);have ai:=β1 (N.o _ d);clear d)) | (go_at_call 78;(go_call aE.o _ G.o as e w4 ⟨rfl,H,t4⟩;have O:=κ H;have Y:=κ t4;clear H t4)))
   go_ret;exact⟨rfl,by rw[U.o];exact O.o,af.o.trans ((I.o.at.stay G.o).trans Y.o)⟩
  | false=>
   have aF:Hid (s.mayOpen (w1,w2)=true):=κ (by
    have:=ay.o.2;rw[ac.o] at this
    exact this)
   rcases aC with rfl | rfl | rfl | rfl | rfl
   ·have U:Hid (s.stepW (0,w2) acc=s.read):=κ (by unfold RmS.stepW;rw[if_neg (by rw[ac.o];decide),if_pos rfl]);obtain⟨b,q,al⟩: ∃b q,s.queue=b::q:=by
     have h:=aF.o;unfold RmS.mayOpen at h;rw[if_pos rfl] at h;have h:=of_decide_eq_true h;cases al:s.queue with
     | nil=>rw[al] at h;simp at h
     | cons b q=>exact⟨b,q,rfl⟩
    have aa:=κ (λw' (m:qa W1 w')=>Mx (I.o.at.on m) aq.o al 0 w2 acc);clear al
    go_enter func31,ntmps31
    go_upto_region 1 with fail
    (try rw[J])
    clear J
    go_wp2_with (first | (go_at_call 27;(go_call ad.o as e aj ⟨rfl,d⟩;have G:=κ d;have ae:=ag.o _ d;have ah:=β0 (N.o _ d);have ai:=β1 (N.o _ d);clear d)) | (go_at_call 79;(go_call aa.o _ G.o as e w4 ⟨rfl,H,t4⟩;have O:=κ H;have Y:=κ t4;clear H t4)))
    go_ret;exact⟨rfl,by rw[U.o];exact O.o,af.o.trans ((I.o.at.stay G.o).trans Y.o)⟩
   ·have U:Hid (s.stepW (1,w2) acc=s.order):=κ (by unfold RmS.stepW;rw[if_neg (by rw[ac.o];decide),if_neg η,if_pos rfl]);have aa:=κ (λw' (m:qa W1 w')=>Lg (I.o.at.on m) aq.o 1 w2 acc)
    go_enter func31,ntmps31
    go_upto_region 1 with fail
    (try rw[J])
    clear J
    go_wp2_with (first | (go_at_call 27;(go_call ad.o as e aj ⟨rfl,d⟩;have G:=κ d;have ae:=ag.o _ d;have ah:=β0 (N.o _ d);have ai:=β1 (N.o _ d);clear d)) | (go_at_call 80;(go_call aa.o _ G.o as e w4 ⟨rfl,H,t4⟩;have O:=κ H;have Y:=κ t4;clear H t4)))
    go_ret;exact⟨rfl,by rw[U.o];exact O.o,af.o.trans ((I.o.at.stay G.o).trans Y.o)⟩
   ·have U:Hid (s.stepW (2,w2) acc=s.choose w2):=κ (by unfold RmS.stepW;rw[if_neg (by rw[ac.o];decide),if_neg η,if_neg η,if_pos rfl]);obtain⟨l,ab⟩:=Option.isSome_iff_exists.1 (ak.o ζ);have aa:=κ (λw' (m:qa W1 w')=>FG (I.o.at.on m) 2 w2 acc ab);clear ab
    go_enter func31,ntmps31
    go_upto_region 1 with fail
    (try rw[J])
    clear J
    go_wp2_with (first | (go_at_call 27;(go_call ad.o as e aj ⟨rfl,d⟩;have G:=κ d;have ae:=ag.o _ d;have ah:=β0 (N.o _ d);have ai:=β1 (N.o _ d);clear d)) | (go_at_call 81;(go_call aa.o _ G.o as e w4 ⟨rfl,H,t4⟩;have O:=κ H;have Y:=κ t4;clear H t4)))
    go_ret;exact⟨rfl,by rw[U.o];exact O.o,af.o.trans ((I.o.at.stay G.o).trans Y.o)⟩
   ·have U:Hid (s.stepW (3,w2) acc=s.rewrite w2):=κ (by unfold RmS.stepW;rw[if_neg (by rw[ac.o];decide),if_neg η,if_neg η,if_neg η,if_pos rfl]);obtain⟨l,ab⟩:=Option.isSome_iff_exists.1 (ak.o ζ);have aa:=κ (λw' (m:qa W1 w')=>CE (I.o.at.on m) 3 w2 acc ab);clear ab
    go_enter func31,ntmps31
    go_upto_region 1 with fail
    (try rw[J])
    clear J
    go_wp2_with (first | (go_at_call 27;(go_call ad.o as e aj ⟨rfl,d⟩;have G:=κ d;have ae:=ag.o _ d;have ah:=β0 (N.o _ d);have ai:=β1 (N.o _ d);clear d)) | (go_at_call 82;(go_call aa.o _ G.o as e w4 ⟨rfl,H,t4⟩;have O:=κ H;have Y:=κ t4;clear H t4)))
    go_ret;exact⟨rfl,by rw[U.o];exact O.o,af.o.trans ((I.o.at.stay G.o).trans Y.o)⟩
   ·have U:Hid (s.stepW (4,w2) acc=s.write w2 acc):=κ (by unfold RmS.stepW;rw[if_neg (by rw[ac.o];decide),if_neg η,if_neg η,if_neg η,if_neg η]);obtain⟨l,ab⟩:=Option.isSome_iff_exists.1 (ak.o ζ);have aK:=ap.o.num.wr w2 l ab;have aH:=ap.o.num.book;have aw:=ax.o;have aa:=κ (λw' (m:qa W1 w')=>La (I.o.at.on m) 4 w2 acc ab τ τ);clear ab aK aH aw
    go_enter func31,ntmps31
    go_upto_region 1 with fail
    (try rw[J])
    clear J
    go_wp2_with (first | (go_at_call 27;(go_call ad.o as e aj ⟨rfl,d⟩;have G:=κ d;have ae:=ag.o _ d;have ah:=β0 (N.o _ d);have ai:=β1 (N.o _ d);clear d)) | (go_at_call 77;(go_call aa.o _ G.o as e w4 ⟨rfl,H,t4⟩;have O:=κ H;have Y:=κ t4;clear H t4)))
    go_ret;exact⟨rfl,by rw[U.o];exact O.o,af.o.trans ((I.o.at.stay G.o).trans Y.o)⟩
end
section
variable {T:Nat->Tg} {w0 w w':World} {k:RmK} {vp vr:Value} {s:RmS} {F:List Nat}
theorem Li (h:RmX T w0 w k vp vr s F) (ad:s.ret.length<=1000000):Calls prog 32 #[γ k.R] w λe w'=>e= .returned (μ s.ended)/\qa w w':=by
 have J:=κ h;have Y:=β7 h.blk;have ac:=β8 h.blk;obtain⟨aa,G⟩:=ν (s.closed);rw[G] at Y;have I:=κ G;clear G h;cases aa with
 | false=>
  have d:Hid (s.ended=false):=κ (by unfold RmS.ended;rw[I.o];rfl);rw[d.o]
  go_enter func32,ntmps32
  go_wp2;go_ret;exact⟨rfl,qa.refl _⟩
 | true=>
  have d:Hid (s.ended=decide (s.ret.length=s.workers.length)):=κ (by unfold RmS.ended;rw[I.o];rfl);have af: ∀H,(Builtin.len_ #[87] H #[.map (some k.M1)]).run prog w= .ok (ι s.ret.length) w:=λH=>J.o.retm.len underlying87 H
  have O:=κ (Xr J.o);rw[d.o]
  go_enter func32,ntmps32
  go_wp2_with (go_at_call 26;(go_call O.o as e w2 ⟨ae,cap,rfl,ab,N⟩;have U:=κ N;clear ab N))
  go_ret;exact⟨qZ (by rw[Bool.eq_iff_iff];simp only[beq_iff_eq,decide_eq_true_eq];omega),U.o⟩
def lfN (s:RmS) (o:Og):Nat:=match qh s.strs o with
 | some t=>t.buf.holds.length
 | none=>0
theorem D8 (h:RmX T w0 w k vp vr s F) (o:Og):lfN s o<=8:=by
 unfold lfN;cases ht:qh s.strs o with
 | none=>exact Nat.zero_le _
 | some t=>
  obtain⟨p,d,v,_,x⟩:=h.strAt ht;have G:=x.ok.fits;have H:=x.ok.room;simp only;omega
theorem Yu {f:Og->Nat} (d: ∀o,f o<=8): ∀L:List Og,(L.map f).sum<=8* L.length
 | []=>by simp
 | o::L=>by
  have G:=d o;have H:=Yu d L;rw[List.map_cons,List.sum_cons,List.length_cons];omega
theorem Lb (h:RmX T w0 w k vp vr s F):Calls prog 23 #[γ k.R] w λe w'=>e= .returned (.tuple #[ι s.queue.length,ι s.held])/\qa w w':=by
 have H:=κ h;obtain⟨d,J⟩:=ν (s.origins);have aF:=κ J;have ah:=κ h.orgsRow;rw[J] at ah;have aC:Hid (s.held=(d.map (lfN s)).sum):=κ (by rw[<-J];rfl);have aB:=κ (D8 h);have aE:Hid (d.length<=9):=κ (by rw[<-J];exact uC s);rw[aC.o];clear h J
 go_enter func23,ntmps23
 go_wp2_with (go_at_call 64;(go_call ah.o as e w1 ⟨v,rfl,au,aq⟩;obtain⟨aV,cap,rfl,aO,ao⟩:=KT au;have aG:=κ ao;have O:=κ aq;clear au aq ao))
 have aU:=aE.o;clear aO
 go_loopw [4,10] (λu af wr=> ∃j:Nat,j<=d.length/\af= ι j/\u= ι ((((d.take j).map (lfN s)).sum:Nat):Int)/\qa w1 wr) (λ_ af _=>d.length-(intOf af).toNat)
 case atStart=>exact⟨0,τ,rfl,rfl,qa.refl _⟩
 case round=>
  obtain⟨j,aS,rfl,rfl,am⟩:=hrel;have G:=κ am;clear am;by_cases hlt:j<d.length
  ·have aN:(j:Int)<(d.length:Int):=by omega
   obtain⟨b,rfl,aR,aj,Y,c1⟩:=aG.o j hlt;have Y:wr.cell? ⟨b,j* 2,none⟩=some (ι (d[j]).1):=by rw[G.o.cells _ _ aj];exact Y
   have c1:wr.cell? ⟨b,j* 2+1,none⟩=some (ι (d[j]).2):=by rw[G.o.cells _ _ aj];exact c1
   obtain⟨t,ae⟩: ∃t,qh s.strs d[j]=some t:=yB (by rw[aF.o];exact List.getElem_mem hlt)
   have ab:Hid (((d.take (j+1)).map (lfN s)).sum=((d.take j).map (lfN s)).sum+t.buf.holds.length):=κ (by
    rw[List.take_succ_eq_append_getElem hlt,List.map_append,List.sum_append,List.map_cons,List.map_nil,List.sum_cons,List.sum_nil];unfold lfN;rw[ae]
    rfl)
   have ap:=Yu aB.o (d.take j);rw[List.length_take] at ap;have aP:((d.take j).map (lfN s)).sum<=72:=by omega
   obtain⟨p,aJ,v,an,N⟩:=H.o.strAt ae;have aL:=N.ok.fits;have aM:=N.ok.room;have aK:t.buf.holds.length<=8:=by omega
   clear aL aM ap ae;generalize d[j]=o at *;obtain⟨aa,o2⟩:=o;simp only at Y c1;obtain⟨W1,I⟩:=ν (wr.alloc (.cells #[ι aa,ι o2] 58));have U:Hid (qa w W1):=κ (by rw[<-I];exact(O.o.trans G.o).al _);have aI:Hid (qa w1 W1):=κ (by rw[<-I];exact G.o.al _);have av:Hid (W1.heap[wr.heap.size]? =some (.cells #[ι aa,ι o2] 58 (0,0))):=κ (by rw[<-I];exact qj wr _);have ac:=λ(x:qt W1)=>qc x.h av.o
   have az:=λx=>β0 (ac x);have aA:=λx=>β1 (ac x);clear ac
   have aw:=λ(x:qt W1)=>β13 (qc (U.o.trans x.h) H.o.blk)
   have ay:=λ(x:qt W1)=>β0 (qc (U.o.trans x.h) N.blk)
   have ax: ∀x:qt W1,(Instr.lookup 91 (.map (some k.MS)) (θ #[ι aa,ι o2]) false).run prog x.w'= .ok (γ p) x.w':=λx=>by
    have:=ya (H.o.stm.more (U.o.trans x.h)) (aa,o2) false;rw[an] at this;exact this
   have ag:=κ (FT t.buf aJ v (W1.drewN 1) (N.buf.on (U.o.dr 1)));obtain⟨aT,ak⟩:=ν (t.buf.holds.length);obtain⟨aW,ad⟩:=ν (((d.take j).map (lfN s)).sum);rw[ak] at ag ab aK;rw[ad] at ab aP
   (try rw[ad])
   clear ak an N ad
   go_upto_region 5 with fail
   (try rw[I])
   clear I Y c1;refine Qn W1 13 13 [10] ?_
   refine NC ?_
   (refine Ql ?_;intro K ai)
   (with_reducible refine ag.o.mono ?_)
   rintro e w5 ⟨rfl,rfl⟩;refine⟨_,rfl,qk ((qa.refl _).dr 1),ai _ _ ?_⟩;clear ai K
   refine Qq2 ?_
   refine qA ?_;clear az aA aw ay ax;go_wp2;go_roundw
   case rel=>exact⟨j+1,τ,by go_num,by rw[ab.o];go_num,aI.o.dr 1⟩
   case measure=>simp[intOf];omega
  ·obtain rfl:j=d.length:=by omega
   have aN: ¬(d.length:Int)<(d.length:Int):=by omega
   have aD:=κ (Hp (H.o.on (O.o.trans G.o)));have aQ:=β10 (qc (O.o.trans G.o) H.o.blk)
   go_wp2_with (go_at_call 66;(go_call aD.o as e w5 ⟨rfl,ar⟩;have aH:=κ ar;clear ar))
   go_ret2
   exact⟨rfl,O.o.trans (G.o.trans aH.o)⟩
end
def ln0:LnS:=Vd 0 0 0 0 0
def RmS.ln (s:RmS) (x:Int):LnS:=(qh s.lanes x).getD ln0
section
variable {T:Nat->Tg} {w0 w w':World} {k:RmK} {vp vr:Value} {s:RmS} {F:List Nat}
theorem MC (h:RmX T w0 w k vp vr s F) (x:Int):Calls prog 24 #[γ k.R,ι x] w λe w'=>
  e= .returned (.tuple #[θ #[ι (s.ln x).cur,ι (s.ln x).tgt],θ #[ι (s.ln x).A.length,ι (s.ln x).B.length,ι (s.ln x).C.length],μ (s.ln x).gone,μ (qh s.lanes x).isSome])/\qa w w':=by
 obtain⟨W2,O⟩:=ν ((w.alloc (.cells #[ι 0,ι 0] 103)).alloc (.cells #[ι 0,ι 0,ι 0] 104));have ak:Hid (qa w W2):=κ (by rw[<-O];exact(qa.alloc _ _).al _);have aa:Hid (W2.heap[w.heap.size]? =some (.cells #[ι 0,ι 0] 103 (0,0))):=κ (by rw[<-O];exact qs (qj w _) _);have N:Hid (W2.heap[w.heap.size+1]? =some (.cells #[ι 0,ι 0,ι 0] 104 (0,0))):=κ (by rw[<-O];exact qC η);have aj:=κ (h.on ak.o);have bb:=β12 aj.o.blk;have q:_:=xq aj.o.lnm x true;simp only[if_true] at q;cases hl:qh s.lanes x with
 | none=>
  have ai:Hid (s.ln x=ln0):=κ (by unfold RmS.ln;rw[hl];rfl);rw[h.laneNo hl] at q;rw[ai.o]
  replace q:(Instr.lookup 90 (.map (some k.ML)) (ι x) true).run prog W2= .ok (.tuple #[π none,false]) W2:=q
  have z0:=β0 aa.o;have ba:=β1 aa.o;have bf:=qd aa.o 0;have bg:=qd aa.o 1;have aB:=β0 N.o;have aC:=β1 N.o;have aD:=β2 N.o;have t0:=qd N.o 0;have t1:=qd N.o 1;have t2:=qd N.o 2;clear h hl
  go_enter func24,ntmps24
  go_upto_region 1 with fail
  (try rw[O])
  clear O;go_wp2
  (refine bodyPost_ret (v:= .tuple #[θ #[ι 0,ι 0],θ #[ι 0,ι 0,ι 0],false,false]) ?rr1 rfl ?_;(case rr1=>(simp[results,results24,go_sem,z0,ba,aB,aC,aD])))
  exact⟨rfl,((((ak.o.st (Nat.le_refl _) _).st (Nat.le_refl _) _).st (Nat.le_add_right _ _) _).st (Nat.le_add_right _ _) _).st (Nat.le_add_right _ _) _⟩
 | some l=>
  obtain⟨p,aP,ad⟩:=aj.o.laneAt hl;have ai:Hid (s.ln x=l):=κ (by unfold RmS.ln;rw[hl];rfl);rw[ai.o];rw[aP] at q
  replace q:(Instr.lookup 90 (.map (some k.ML)) (ι x) true).run prog W2= .ok (.tuple #[γ p,true]) W2:=q
  have aK:=κ (Xb ad);have aI:=κ (λw' (m:qa W2 w')=>ES (ad.on m));have aH:=κ (λw' (m:qa W2 w')=>JB (ad.on m));obtain⟨d,av⟩:=ν (l.cur);obtain⟨G,ay⟩:=ν (l.tgt);obtain⟨be,aO⟩:=ν (l.wanted);obtain⟨aZ,ax⟩:=ν (l.gone);obtain⟨la,ar⟩:=ν (l.A.length);obtain⟨lb,au⟩:=ν (l.B.length);obtain⟨J,aw⟩:=ν (l.C.length);rw[av,ay,aO] at aK;rw[ax] at aH;rw[ar,au,aw] at aI;rw[av,ay,ax,ar,au,aw];clear av ay aO ax ar au aw aP ad hl h
  go_enter func24,ntmps24
  go_upto_region 1 with fail
  (try rw[O])
  clear O
  go_upto_region 5 with (go_at_call 67;(go_call aK.o as e U ⟨rfl,aR⟩;have aL:=κ aR;clear aR))
  obtain⟨I,ac⟩:=ν (U.alloc (.cells #[ι d,ι G] 103));have an:Hid (qa W2 I):=κ (by rw[<-ac];exact aL.o.al _);have aE:Hid (I.heap[U.heap.size]? =some (.cells #[ι d,ι G] 103 (0,0))):=κ (by rw[<-ac];exact qj U _);have aQ:w.heap.size+2<=U.heap.size:=by
   have bc:=aL.o.size;have bd:=qn N.o;omega
  have aJ:=κ aQ;clear aQ
  (try rw[ac])
  clear ac;have aV: ∀y:qz (λb=>b=w.heap.size∨b=w.heap.size+1) I,y.w'.cell? ⟨U.heap.size,0,none⟩=some (ι d):=λy=>qb (y.h.blk aE.o (λe=>by have:=aJ.o;omega)) 0 rfl
  have aW: ∀y:qz (λb=>b=w.heap.size∨b=w.heap.size+1) I,y.w'.cell? ⟨U.heap.size,1,none⟩=some (ι G):=λy=>qb (y.h.blk aE.o (λe=>by have:=aJ.o;omega)) 1 rfl
  refine zp (λb=>b=w.heap.size∨b=w.heap.size+1) I 9 [(0,false),(1,false),(3,false),(2,true),(4,true),(5,true),(6,true),(7,false),(8,false)] ξ ξ ?_
  refine Qs3 ?_
  (refine Ql ?_;intro K H)
  go_call aI.o _ (an.o.dr 1) as e w5 ⟨rfl,aS⟩;have ao:Hid (qa I w5):=κ ((qa.drewN I 1).trans aS);clear aS;refine⟨_,rfl,qi (qg.of_more ao.o),H _ _ ?_⟩;clear H K
  (refine Ql ?_;intro K H)
  go_call aH.o _ (an.o.trans ao.o) as e w6 ⟨rfl,aT⟩;have ap:Hid (qa I w6):=κ (ao.o.trans aT);clear aT;refine⟨_,rfl,qi (qg.of_more ap.o),H _ _ ?_⟩;clear H K aV aW;have am:=κ (an.o.trans ap.o);have aF:=κ (qc am.o aa.o);have aU:=κ (qc am.o N.o);refine jR rfl rfl ?_;intro K H;refine xw 103 (.tmp 4) (.tmp 30) rfl w.heap.size 103 _ #[ι d,ι G] aF.o rfl rfl ξ rfl (by simp[Value.oneCell']) ?_;have ae:Hid (qg (λb=>b=w.heap.size∨b=w.heap.size+1) I (w6.setRow w.heap.size #[ι d,ι G])):=κ ((qg.of_more ap.o).trans ((qg.setRow w6 w.heap.size #[ι d,ι G]).mono (λb aq=>Or.inl aq)));have aG:=κ (jM aF.o #[ι d,ι G]);have ah:Hid ((w6.setRow w.heap.size #[ι d,ι G]).heap[w.heap.size+1]? =some (.cells #[ι 0,ι 0,ι 0] 104 (0,0))):=κ ((qg.setRow w6 w.heap.size #[ι d,ι G]).blk aU.o τ);have aM:Hid (qa w (w6.setRow w.heap.size #[ι d,ι G])):=κ ((ak.o.trans am.o).row (Nat.le_refl _) _);refine⟨qi ae.o,H _ _ ?_⟩;clear H K;obtain⟨Y,az⟩:=ν (w6.setRow w.heap.size #[ι d,ι G]);rw[az] at ae aG ah aM
  (try rw[az])
  clear az;refine jR rfl rfl ?_;intro K H;refine xw 104 (.tmp 5) (.tmp 32) rfl (w.heap.size+1) 104 _ #[ι la,ι lb,ι J] ah.o rfl rfl ξ rfl (by simp[Value.oneCell']) ?_;have af:Hid (qg (λb=>b=w.heap.size∨b=w.heap.size+1) I (Y.setRow (w.heap.size+1) #[ι la,ι lb,ι J])):=κ (ae.o.trans ((qg.setRow Y (w.heap.size+1) #[ι la,ι lb,ι J]).mono (λb aq=>Or.inr aq)));have ab:=κ (jM ah.o #[ι la,ι lb,ι J]);have ag:Hid ((Y.setRow (w.heap.size+1) #[ι la,ι lb,ι J]).heap[w.heap.size]? =some (.cells #[ι d,ι G] 103 (0,0))):=κ ((qg.setRow Y (w.heap.size+1) #[ι la,ι lb,ι J]).blk aG.o τ);have aN:Hid (qa w (Y.setRow (w.heap.size+1) #[ι la,ι lb,ι J])):=κ (aM.o.row (Nat.le_succ _) _);refine⟨qi af.o,H _ _ ?_⟩;clear H K;obtain⟨w8,aA⟩:=ν (Y.setRow (w.heap.size+1) #[ι la,ι lb,ι J]);rw[aA] at af ag ab aN
  (try rw[aA])
  clear aA;go_simp
  iterate 2 (refine qE rfl rfl (qi af.o) ?_;intro K H;go_big_quiet_op;go_big_quiet_on)
  refine qA ?_;have aX:=β0 ag.o;have aY:=β1 ag.o;have aB:=β0 ab.o;have aC:=β1 ab.o;have aD:=β2 ab.o;go_wp2
  (refine bodyPost_ret (v:= .tuple #[θ #[ι d,ι G],θ #[ι la,ι lb,ι J],aZ,true]) ?rr2 rfl ?_;(case rr2=>(simp[results,results24,go_sem,aX,aY,aB,aC,aD])))
  exact⟨rfl,aN.o⟩
theorem CA (h:RmX T w0 w k vp vr s F) (x:Int) (d:(s.ln x).W.length<=1000000):Calls prog 14 #[γ k.R,ι x] w λe w'=>(∃v,e= .returned v/\je 2 (ROn w.heap.size) (λb=>b<w.heap.size) w' w.heap.size 56 v (s.ln x).W)/\qa w w':=by
 have aa:=β12 h.blk;have q:_:=xq h.lnm x true;simp only[if_true] at q;cases hl:qh s.lanes x with
 | none=>
  have G:Hid (s.ln x=ln0):=κ (by unfold RmS.ln;rw[hl];rfl)
  replace q:(Instr.lookup 90 (.map (some k.ML)) (ι x) true).run prog w= .ok (.tuple #[π none,false]) w:=by rw[h.laneNo hl] at q;exact q
  rw[G.o];clear h hl d
  go_enter func14,ntmps14
  go_wp2;go_ret;exact⟨⟨_,rfl,je.nil _ _ _ _ _ _⟩,qa.refl _⟩
 | some l=>
  obtain⟨p,I,H⟩:=h.laneAt hl;have G:Hid (s.ln x=l):=κ (by unfold RmS.ln;rw[hl];rfl);rw[G.o] at d ⊢
  replace q:(Instr.lookup 90 (.map (some k.ML)) (ι x) true).run prog w= .ok (.tuple #[γ p,true]) w:=by rw[I] at q;exact q
  have O:=κ (Uh H d);clear h hl I H d
  go_enter func14,ntmps14
  go_wp2_with (go_at_call 48;(go_call O.o as e w2 ⟨⟨v,rfl,N⟩,J⟩;have Y:=κ N;have U:=κ J;clear N J))
  go_ret;exact⟨⟨_,rfl,Y.o⟩,U.o⟩
end
section
variable {T:Nat->Tg} {w0 w w':World} {k:RmK} {vp vr:Value} {s:RmS} {F:List Nat}
theorem Lf (h:RmX T w0 w k vp vr s F) {b:List Int} {H:Option Addr} {I:Nat} (av:SlI .u8 w (δ H b.length I) b) (N:Byt b) (ah:b≠[]-> ∀g,(δ H b.length I).ownBlock=some g->T g= .data/\g<w.heap.size):
  Calls prog 83 #[γ k.RQ,δ H b.length I] w λe w'=> ∃vx,e= .returned (.tuple #[vx,(!decide (s.queue.length<s.cfg.room.toNat)),ι 0])/\
   qI w0 w' k {s with queue:=if s.queue.length<s.cfg.room.toNat then s.queue++[b] else s.queue.tail++[b]} F/\qw F w w'/\qg (RgB k.RQ k.AQ) w w':=by
 obtain⟨f,Q,af,ag,ad,ae,css,g,a⟩:=h.que;obtain⟨t1,t2,_⟩:=h.all .queue;have ai:=g.fits;have aj:=a.len;have key: ∀{w':World} {D:Nat->Prop},qg (RgB k.RQ k.AQ) w w'->(∀c,D c->T c≠ .data∨w.heap.size<=c)->jw RBy D w' [δ H b.length I] b:=by
  intro w' D d G w'' al
  have s1:=av.off2 (D:=RgB k.RQ k.AQ) (λab c aa ac=>by
   have:=(ah ab c aa).1;rcases ac with rfl | rfl
   ·rw[t1] at this;cases this
   ·rw[t2] at this;cases this) d
  refine⟨_,rfl,s1.off2 (D:=D) (λab c aa ac=> ?_) al,N⟩;obtain⟨ap,aw⟩:=ah ab c aa;rcases G c ac with q | q
  ·exact q ap
  ·omega
 have ak: ∀{w':World} {D:Nat->Prop} {J:List (List Value)} {q':List (List Int)},zb (jw RBy (λb=>T b≠ .data) w) J q'->qg (RgB k.RQ k.AQ) w w'->(∀c,D c->T c≠ .data∨w.heap.size<=c)->zb (jw RBy D w') J q':=by
  intro w' D J q' a d G;have am:qg (λb=>T b≠ .data) w w':=d.mono λb N=>by
   rcases N with rfl | rfl
   ·rw[t1];simp
   ·rw[t2];simp
  exact a.mono λc y aq=>(aq.step am).other λb N=>(G b N).elim Or.inl (λx=>Or.inl (by rw[h.fresh b x];simp))
 by_cases hq:s.queue.length<s.cfg.room.toNat
 ·rw[if_pos hq,decide_eq_true hq];refine(UB w _ _ _ f Q af ag ad ae css g τ H _ I).mono ?_;rintro e w' ⟨rfl,⟨ao,an,g'⟩,d⟩;obtain⟨U,Y⟩:=h.ring (q:=s.queue++[b]) d (λD G=>⟨_,_,_,_,_,_,_,g',(ak a d G).snoc (key d G)⟩);exact⟨_,rfl,U,Y,d⟩
 ·rw[if_neg hq,decide_eq_false hq];have O:Q.length=s.cfg.room.toNat:=by omega
  have ax:=g.pos
  match hQ:Q,a,O,g,aj,ai with
  | [],_,O,_,_,_=>simp at O;omega
  | c::J,a,O,g,aj,ai=>
   cases hs:s.queue with
   | nil=>rw[hs] at a;exact a.elim
   | cons b0 q0=>
    rw[hs] at a;obtain⟨v,rfl,⟨ar,au,rfl,_⟩,_⟩:=a.1.read;refine(UC w _ _ _ f ar _ au J af ag ad ae css g O H _ I).mono ?_;rintro e w' ⟨rfl,⟨ao,an,g'⟩,d⟩;obtain⟨U,Y⟩:=h.ring (q:=q0++[b]) d (λD G=>⟨_,_,_,_,_,_,_,g',(ak a.2 d G).snoc (key d G)⟩);exact⟨_,rfl,by rw[List.tail_cons];exact U,Y,d⟩
theorem Gf (aH:qI w0 w k s F) (b:List Int) (v:Value) (av:SlI .u8 w v b) (ao:Byt b) (ap:b.length<=1000000) (aI:0<=s.cnt.lost/\s.cnt.lost<=1000000000):
  Calls prog 33 #[γ k.R,v] w λe w'=>e= .returned (ι (s.arrive b).2)/\qI w0 w' k (s.arrive b).1 F/\qw F w w':=by
 obtain⟨T,vp,aS,h⟩:=aH;have d:=κ h;have aF:=β7 h.blk;obtain⟨aG,ab⟩:=ν (s.closed);rw[ab] at aF;have ag:=κ ab;clear ab h;cases aG with
 | true=>
  have H:Hid (s.arrive b=(s,7)):=κ (by unfold RmS.arrive;rw[if_pos ag.o]);rw[H.o]
  go_enter func33,ntmps33
  go_wp2;go_ret;exact⟨rfl,d.o.at,qw.refl _ _⟩
 | false=>
  obtain⟨ak,ac⟩:=ν ((!decide (s.queue.length<s.cfg.room.toNat)));obtain⟨J,ad⟩:=ν ((if s.queue.length<s.cfg.room.toNat then s.queue++[b] else s.queue.tail++[b]))
  have H:Hid (s.arrive b=if ak then ({s with queue:=J,cnt:={s.cnt with lost:=s.cnt.lost+1}},0) else ({s with queue:=J},0)):=κ (by
   have aP:=d.o.que.fit;rw[<-ac,<-ad];unfold RmS.arrive;rw[if_neg (by rw[ag.o];decide)];by_cases hc:s.queue.length<s.cfg.room.toNat
   ·rw[if_pos τ,decide_eq_true hc,if_pos hc];rfl
   ·rw[if_neg τ,decide_eq_false hc,if_neg hc]
    rfl)
  have aB:=κ (wQ v b (w.drewN 1) (av.keep (qa.drewN w 1)) ap);have aA:=κ ao;have aC:=κ d.o.fresh;have aJ: ¬RgB k.RQ k.AQ k.R:=by
   obtain⟨au,J,_⟩:=d.o.all .queue;rintro(e | e)
   ·rw[<-e,(d.o.all .room).1] at au;cases au
   ·rw[<-e,(d.o.all .room).1] at J;cases J
  have ay:=λ(x:qz (RgB k.RQ k.AQ) w)=>β10 (x.h.blk d.o.blk aJ)
  obtain⟨aQ,aR⟩:=aI;have aD:Hid ((b.length:Int)<=9223372036854775807):=κ τ;clear av ao ap
  go_enter func33,ntmps33
  go_upto_region 3 with fail
  refine QN (RgB k.RQ k.AQ) w 14 14 [5,6] ?_
  refine Qs5 ?_
  (refine Ql ?_;intro K I)
  (with_reducible refine aB.o.mono ?_)
  rintro e w5 ⟨⟨v5,rfl,O⟩,ar⟩;have N:Hid (qa w w5):=κ ((qa.drewN w 1).trans ar);have aa:=κ (SlI.of_owns O aD.o);have az:Hid (∀g,v5.ownBlock=some g->w.heap.size<=g):=κ (λg G=>jS O G);obtain⟨aK,aL,rfl⟩:=xl O;clear O ar;refine⟨_,rfl,qi (qg.of_more N.o),I _ _ ?_⟩;clear I K ay
  obtain⟨aM,ax,an,_⟩:=(d.o.on N.o).data (λg=>b≠[]/\(δ aK b.length aL).ownBlock=some g) (λg G=>by
   have al:w.heap.size<=g:=az.o g G.2
   exact⟨aC.o g al,Nat.le_trans d.o.more.size al,aa.o.old G.1 G.2,λhF=>by have:=(d.o.law g hF).2.2;omega⟩)
  have ah:=κ (Lf ax aa.o aA.o (λaq g G=>⟨an g ⟨aq,G⟩,aa.o.old aq G⟩));rw[ac,ad] at ah;have aE:=κ (d.o.at.stay N.o);clear ax an ac ad
  (refine Ql ?_;intro K I)
  (with_reducible refine ah.o.mono ?_)
  rintro e w6 ⟨aT,rfl,am,aw,aj⟩;have Y:=κ am;have ai:=κ (aE.o.trans aw);have ae:Hid (qg (RgB k.RQ k.AQ) w w6):=κ ((qg.of_more N.o).trans aj);clear am aw aj;refine⟨_,rfl,qi ae.o,I _ _ ?_⟩;clear I K
  iterate 7 (refine qE rfl rfl (qi ae.o) ?_;intro K I;go_big_quiet_op;go_big_quiet_on)
  refine qA ?_;obtain⟨_,_,U⟩:=Y.o.blk;have aN:=β16 U;have aO:=qd U 16;clear U;cases ak with
  | false=>
   go_wp2;go_ret;exact⟨by rw[H.o];rfl,by rw[H.o];exact Y.o,ai.o⟩
  | true=>
   have af:=κ (Y.o.cell 16 (ι (s.cnt.lost+1)) (s':={s with queue:=J,cnt:={s.cnt with lost:=s.cnt.lost+1}}) (λ_ _=>rfl) ⟨rfl,rfl,rfl,rfl,rfl,rfl,rfl,rfl,rfl⟩);go_wp2;go_ret;exact⟨by rw[H.o];rfl,by rw[H.o];exact af.o.1,ai.o.trans af.o.2⟩
end
end Go.Proofs.YtlmllmonabafjaaGreatDoor
