/- Contracts of the functions that the law reaches, and plain laws; no conditions but those written at each. -/
import Derived.Test.YtdgippmmaponfaaGreatMg22
namespace Go.Proofs.YtdgippmmaponfaaGreat
open Go.Value renaming bool->μ,slice->δ,pointer->π,agg->θ
open Go.IntKind renaming i64->ι,u8->υ,u16->φ,u32->ω,i32->χ,u64->ψ
open _root_.Go.Proofs.Tryz
set_option linter.unusedSimpArgs false
set_option maxHeartbeats 8000000
set_option linter.unusedVariables false
open Go.RowKit
set_option maxRecDepth 100000
def ln0:LnS:=Vd 0 0 0 0 0
def RmS.ln (s:RmS) (x:Int):LnS:=(qh s.lanes x).getD ln0
section
variable {T:Nat->Tg} {w0 w w':World} {k:RmK} {vp vr:Value} {s:RmS} {F:List Nat}
theorem MC (h:RmX T w0 w k vp vr s F) (x:Int):Calls prog 20 #[γ k.R,ι x] w λe w'=>
  e= .returned (.tuple #[θ #[ι (s.ln x).cur,ι (s.ln x).tgt],θ #[ι (s.ln x).A.length,ι (s.ln x).B.length,ι (s.ln x).C.length],μ (s.ln x).gone,μ (qh s.lanes x).isSome])/\qa w w':=by
 obtain⟨W2,N⟩:=ν ((w.alloc (.cells #[ι 0,ι 0] 71)).alloc (.cells #[ι 0,ι 0,ι 0] 72));have aj:Hid (qa w W2):=κ (by rw[<-N];exact(qa.alloc _ _).al _);have Y:Hid (W2.heap[w.heap.size]? =some (.cells #[ι 0,ι 0] 71 (0,0))):=κ (by rw[<-N];exact qs (qj w _) _);have M:Hid (W2.heap[w.heap.size+1]? =some (.cells #[ι 0,ι 0,ι 0] 72 (0,0))):=κ (by rw[<-N];exact qC η);have ai:=κ (h.on aj.o);have ba:=β12 ai.o.blk;have q:_:=xq ai.o.lnm x true;simp only[if_true] at q;cases hl:qh s.lanes x with
 | none=>
  have ah:Hid (s.ln x=ln0):=κ (by unfold RmS.ln;rw[hl];rfl);rw[h.laneNo hl] at q;rw[ah.o]
  replace q:(Instr.lookup 83 (.map (some k.ML)) (ι x) true).run prog W2= .ok (.tuple #[π none,false]) W2:=q
  have z0:=β0 Y.o;have aZ:=β1 Y.o;have be:=qd Y.o 0;have bf:=qd Y.o 1;have aA:=β0 M.o;have aB:=β1 M.o;have aC:=β2 M.o;have t0:=qd M.o 0;have t1:=qd M.o 1;have t2:=qd M.o 2;clear h hl
  go_enter func20,ntmps20
  go_upto_region 1 with fail
  (try rw[N])
  clear N;go_wp2
  (refine bodyPost_ret (v:= .tuple #[θ #[ι 0,ι 0],θ #[ι 0,ι 0,ι 0],false,false]) ?rr1 rfl ?_;(case rr1=>(simp[results,results20,go_sem,z0,aZ,aA,aB,aC])))
  exact⟨rfl,((((aj.o.st (Nat.le_refl _) _).st (Nat.le_refl _) _).st (Nat.le_add_right _ _) _).st (Nat.le_add_right _ _) _).st (Nat.le_add_right _ _) _⟩
 | some l=>
  obtain⟨p,aO,ac⟩:=ai.o.laneAt hl;have ah:Hid (s.ln x=l):=κ (by unfold RmS.ln;rw[hl];rfl);rw[ah.o];rw[aO] at q
  replace q:(Instr.lookup 83 (.map (some k.ML)) (ι x) true).run prog W2= .ok (.tuple #[γ p,true]) W2:=q
  have aJ:=κ (Xb ac);have aH:=κ (λw' (m:qa W2 w')=>ES (ac.on m));have aG:=κ (λw' (m:qa W2 w')=>JB (ac.on m));obtain⟨d,au⟩:=ν (l.cur);obtain⟨G,ax⟩:=ν (l.tgt);obtain⟨bd,aN⟩:=ν (l.wanted);obtain⟨aY,aw⟩:=ν (l.gone);obtain⟨la,aq⟩:=ν (l.A.length);obtain⟨lb,ar⟩:=ν (l.B.length);obtain⟨J,av⟩:=ν (l.C.length);rw[au,ax,aN] at aJ;rw[aw] at aG;rw[aq,ar,av] at aH;rw[au,ax,aw,aq,ar,av];clear au ax aN aw aq ar av aO ac hl h
  go_enter func20,ntmps20
  go_upto_region 1 with fail
  (try rw[N])
  clear N
  go_upto_region 5 with (go_at_call 67;(go_call aJ.o as e O ⟨rfl,aQ⟩;have aK:=κ aQ;clear aQ))
  obtain⟨I,ab⟩:=ν (O.alloc (.cells #[ι d,ι G] 71));have am:Hid (qa W2 I):=κ (by rw[<-ab];exact aK.o.al _);have aD:Hid (I.heap[O.heap.size]? =some (.cells #[ι d,ι G] 71 (0,0))):=κ (by rw[<-ab];exact qj O _);have aP:w.heap.size+2<=O.heap.size:=by
   have bb:=aK.o.size;have bc:=qn M.o;omega
  have aI:=κ aP;clear aP
  (try rw[ab])
  clear ab;have aU: ∀y:qz (λb=>b=w.heap.size∨b=w.heap.size+1) I,y.w'.cell? ⟨O.heap.size,0,none⟩=some (ι d):=λy=>qb (y.h.blk aD.o (λe=>by have:=aI.o;omega)) 0 rfl
  have aV: ∀y:qz (λb=>b=w.heap.size∨b=w.heap.size+1) I,y.w'.cell? ⟨O.heap.size,1,none⟩=some (ι G):=λy=>qb (y.h.blk aD.o (λe=>by have:=aI.o;omega)) 1 rfl
  refine zp (λb=>b=w.heap.size∨b=w.heap.size+1) I 9 [(0,false),(1,false),(3,false),(2,true),(4,true),(5,true),(6,true),(7,false),(8,false)] ξ ξ ?_
  refine Qs3 ?_
  (refine Ql ?_;intro K H)
  go_call aH.o _ (am.o.dr 1) as e w5 ⟨rfl,aR⟩;have an:Hid (qa I w5):=κ ((qa.drewN I 1).trans aR);clear aR;refine⟨_,rfl,qi (qg.of_more an.o),H _ _ ?_⟩;clear H K
  (refine Ql ?_;intro K H)
  go_call aG.o _ (am.o.trans an.o) as e w6 ⟨rfl,aS⟩;have ao:Hid (qa I w6):=κ (an.o.trans aS);clear aS;refine⟨_,rfl,qi (qg.of_more ao.o),H _ _ ?_⟩;clear H K aU aV;have ak:=κ (am.o.trans ao.o);have aE:=κ (qc ak.o Y.o);have aT:=κ (qc ak.o M.o);refine jR rfl rfl ?_;intro K H;refine xw 71 (.tmp 4) (.tmp 30) rfl w.heap.size 71 _ #[ι d,ι G] aE.o rfl rfl ξ rfl (by simp[Value.oneCell']) ?_;have ad:Hid (qg (λb=>b=w.heap.size∨b=w.heap.size+1) I (w6.setRow w.heap.size #[ι d,ι G])):=κ ((qg.of_more ao.o).trans ((qg.setRow w6 w.heap.size #[ι d,ι G]).mono (λb ap=>Or.inl ap)));have aF:=κ (jM aE.o #[ι d,ι G]);have ag:Hid ((w6.setRow w.heap.size #[ι d,ι G]).heap[w.heap.size+1]? =some (.cells #[ι 0,ι 0,ι 0] 72 (0,0))):=κ ((qg.setRow w6 w.heap.size #[ι d,ι G]).blk aT.o τ);have aL:Hid (qa w (w6.setRow w.heap.size #[ι d,ι G])):=κ ((aj.o.trans ak.o).row (Nat.le_refl _) _);refine⟨qi ad.o,H _ _ ?_⟩;clear H K;obtain⟨U,ay⟩:=ν (w6.setRow w.heap.size #[ι d,ι G]);rw[ay] at ad aF ag aL
  (try rw[ay])
  clear ay;refine jR rfl rfl ?_;intro K H;refine xw 72 (.tmp 5) (.tmp 32) rfl (w.heap.size+1) 72 _ #[ι la,ι lb,ι J] ag.o rfl rfl ξ rfl (by simp[Value.oneCell']) ?_;have ae:Hid (qg (λb=>b=w.heap.size∨b=w.heap.size+1) I (U.setRow (w.heap.size+1) #[ι la,ι lb,ι J])):=κ (ad.o.trans ((qg.setRow U (w.heap.size+1) #[ι la,ι lb,ι J]).mono (λb ap=>Or.inr ap)));have aa:=κ (jM ag.o #[ι la,ι lb,ι J]);have af:Hid ((U.setRow (w.heap.size+1) #[ι la,ι lb,ι J]).heap[w.heap.size]? =some (.cells #[ι d,ι G] 71 (0,0))):=κ ((qg.setRow U (w.heap.size+1) #[ι la,ι lb,ι J]).blk aF.o τ);have aM:Hid (qa w (U.setRow (w.heap.size+1) #[ι la,ι lb,ι J])):=κ (aL.o.row (Nat.le_succ _) _);refine⟨qi ae.o,H _ _ ?_⟩;clear H K;obtain⟨w8,az⟩:=ν (U.setRow (w.heap.size+1) #[ι la,ι lb,ι J]);rw[az] at ae af aa aM
  (try rw[az])
  clear az;go_simp
  iterate 2 (refine qE rfl rfl (qi ae.o) ?_;intro K H;go_big_quiet_op;go_big_quiet_on)
  refine qA ?_;have aW:=β0 af.o;have aX:=β1 af.o;have aA:=β0 aa.o;have aB:=β1 aa.o;have aC:=β2 aa.o;go_wp2
  (refine bodyPost_ret (v:= .tuple #[θ #[ι d,ι G],θ #[ι la,ι lb,ι J],aY,true]) ?rr2 rfl ?_;(case rr2=>(simp[results,results20,go_sem,aW,aX,aA,aB,aC])))
  exact⟨rfl,aM.o⟩
theorem CA (h:RmX T w0 w k vp vr s F) (x:Int) (d:(s.ln x).W.length<=1000000):Calls prog 32 #[γ k.R,ι x] w λe w'=>(∃v,e= .returned v/\je 2 (ROn w.heap.size) (λb=>b<w.heap.size) w' w.heap.size 107 v (s.ln x).W)/\qa w w':=by
 have Y:=β12 h.blk;have q:_:=xq h.lnm x true;simp only[if_true] at q;cases hl:qh s.lanes x with
 | none=>
  have G:Hid (s.ln x=ln0):=κ (by unfold RmS.ln;rw[hl];rfl)
  replace q:(Instr.lookup 83 (.map (some k.ML)) (ι x) true).run prog w= .ok (.tuple #[π none,false]) w:=by rw[h.laneNo hl] at q;exact q
  rw[G.o];clear h hl d
  go_enter func32,ntmps32
  go_wp2;go_ret;exact⟨⟨_,rfl,je.nil _ _ _ _ _ _⟩,qa.refl _⟩
 | some l=>
  obtain⟨p,I,H⟩:=h.laneAt hl;have G:Hid (s.ln x=l):=κ (by unfold RmS.ln;rw[hl];rfl);rw[G.o] at d ⊢
  replace q:(Instr.lookup 83 (.map (some k.ML)) (ι x) true).run prog w= .ok (.tuple #[γ p,true]) w:=by rw[I] at q;exact q
  have N:=κ (Uh H d);clear h hl I H d
  go_enter func32,ntmps32
  go_wp2_with (go_at_call 90;(go_call N.o as e w2 ⟨⟨v,rfl,M⟩,J⟩;have U:=κ M;have O:=κ J;clear M J))
  go_ret;exact⟨⟨_,rfl,U.o⟩,O.o⟩
end
section
variable {T:Nat->Tg} {w0 w w':World} {k:RmK} {vp vr:Value} {s:RmS} {F:List Nat}
theorem Lf (h:RmX T w0 w k vp vr s F) {b:List Int} {H:Option Addr} {I:Nat} (ar:SlI .u8 w (δ H b.length I) b) (M:Byt b) (ag:b≠[]-> ∀g,(δ H b.length I).ownBlock=some g->T g= .data/\g<w.heap.size):
  Calls prog 82 #[γ k.RQ,δ H b.length I] w λe w'=> ∃vx,e= .returned (.tuple #[vx,(!decide (s.queue.length<s.cfg.room.toNat)),ι 0])/\
   qI w0 w' k {s with queue:=if s.queue.length<s.cfg.room.toNat then s.queue++[b] else s.queue.tail++[b]} F/\qw F w w'/\qg (RgB k.RQ k.AQ) w w':=by
 obtain⟨f,Q,ae,af,ac,ad,css,g,a⟩:=h.que;obtain⟨t1,t2,_⟩:=h.all .queue;have ah:=g.fits;have ai:=a.len;have key: ∀{w':World} {D:Nat->Prop},qg (RgB k.RQ k.AQ) w w'->(∀c,D c->T c≠ .data∨w.heap.size<=c)->jw RBy D w' [δ H b.length I] b:=by
  intro w' D d G w'' ak
  have s1:=ar.off2 (D:=RgB k.RQ k.AQ) (λaa c Y ab=>by
   have:=(ag aa c Y).1;rcases ab with rfl | rfl
   ·rw[t1] at this;cases this
   ·rw[t2] at this;cases this) d
  refine⟨_,rfl,s1.off2 (D:=D) (λaa c Y ab=> ?_) ak,M⟩;obtain⟨ao,au⟩:=ag aa c Y;rcases G c ab with q | q
  ·exact q ao
  ·omega
 have aj: ∀{w':World} {D:Nat->Prop} {J:List (List Value)} {q':List (List Int)},zb (jw RBy (λb=>T b≠ .data) w) J q'->qg (RgB k.RQ k.AQ) w w'->(∀c,D c->T c≠ .data∨w.heap.size<=c)->zb (jw RBy D w') J q':=by
  intro w' D J q' a d G;have al:qg (λb=>T b≠ .data) w w':=d.mono λb M=>by
   rcases M with rfl | rfl
   ·rw[t1];simp
   ·rw[t2];simp
  exact a.mono λc y ap=>(ap.step al).other λb M=>(G b M).elim Or.inl (λx=>Or.inl (by rw[h.fresh b x];simp))
 by_cases hq:s.queue.length<s.cfg.room.toNat
 ·rw[if_pos hq,decide_eq_true hq];refine(UB w _ _ _ f Q ae af ac ad css g τ H _ I).mono ?_;rintro e w' ⟨rfl,⟨an,am,g'⟩,d⟩;obtain⟨O,U⟩:=h.ring (q:=s.queue++[b]) d (λD G=>⟨_,_,_,_,_,_,_,g',(aj a d G).snoc (key d G)⟩);exact⟨_,rfl,O,U,d⟩
 ·rw[if_neg hq,decide_eq_false hq];have N:Q.length=s.cfg.room.toNat:=by omega
  have av:=g.pos
  match hQ:Q,a,N,g,ai,ah with
  | [],_,N,_,_,_=>simp at N;omega
  | c::J,a,N,g,ai,ah=>
   cases hs:s.queue with
   | nil=>rw[hs] at a;exact a.elim
   | cons b0 q0=>
    rw[hs] at a;obtain⟨v,rfl,⟨pa,aq,rfl,_⟩,_⟩:=a.1.read;refine(UC w _ _ _ f pa _ aq J ae af ac ad css g N H _ I).mono ?_;rintro e w' ⟨rfl,⟨an,am,g'⟩,d⟩;obtain⟨O,U⟩:=h.ring (q:=q0++[b]) d (λD G=>⟨_,_,_,_,_,_,_,g',(aj a.2 d G).snoc (key d G)⟩);exact⟨_,rfl,by rw[List.tail_cons];exact O,U,d⟩
theorem Gf (aG:qI w0 w k s F) (b:List Int) (v:Value) (au:SlI .u8 w v b) (an:Byt b) (ao:b.length<=1000000) (aH:0<=s.cnt.lost/\s.cnt.lost<=1000000000):
  Calls prog 28 #[γ k.R,v] w λe w'=>e= .returned (ι (s.arrive b).2)/\qI w0 w' k (s.arrive b).1 F/\qw F w w':=by
 obtain⟨T,vp,aR,h⟩:=aG;have d:=κ h;have aE:=β7 h.blk;obtain⟨aF,aa⟩:=ν (s.closed);rw[aa] at aE;have af:=κ aa;clear aa h;cases aF with
 | true=>
  have H:Hid (s.arrive b=(s,7)):=κ (by unfold RmS.arrive;rw[if_pos af.o]);rw[H.o]
  go_enter func28,ntmps28
  go_wp2;go_ret;exact⟨rfl,d.o.at,qw.refl _ _⟩
 | false=>
  obtain⟨aj,ab⟩:=ν ((!decide (s.queue.length<s.cfg.room.toNat)));obtain⟨J,ac⟩:=ν ((if s.queue.length<s.cfg.room.toNat then s.queue++[b] else s.queue.tail++[b]))
  have H:Hid (s.arrive b=if aj then ({s with queue:=J,cnt:={s.cnt with lost:=s.cnt.lost+1}},0) else ({s with queue:=J},0)):=κ (by
   have aO:=d.o.que.fit;rw[<-ab,<-ac];unfold RmS.arrive;rw[if_neg (by rw[af.o];decide)];by_cases hc:s.queue.length<s.cfg.room.toNat
   ·rw[if_pos τ,decide_eq_true hc,if_pos hc];rfl
   ·rw[if_neg τ,decide_eq_false hc,if_neg hc]
    rfl)
  have aA:=κ (wQ v b (w.drewN 1) (au.keep (qa.drewN w 1)) ao);have az:=κ an;have aB:=κ d.o.fresh;have aI: ¬RgB k.RQ k.AQ k.R:=by
   obtain⟨ar,J,_⟩:=d.o.all .queue;rintro(e | e)
   ·rw[<-e,(d.o.all .room).1] at ar;cases ar
   ·rw[<-e,(d.o.all .room).1] at J;cases J
  have ax:=λ(x:qz (RgB k.RQ k.AQ) w)=>β10 (x.h.blk d.o.blk aI)
  obtain⟨aP,aQ⟩:=aH;have aC:Hid ((b.length:Int)<=9223372036854775807):=κ τ;clear au an ao
  go_enter func28,ntmps28
  go_upto_region 3 with fail
  refine QN (RgB k.RQ k.AQ) w 14 14 [5,6] ?_
  refine Qs5 ?_
  (refine Ql ?_;intro K I)
  (with_reducible refine aA.o.mono ?_)
  rintro e w5 ⟨⟨v5,rfl,N⟩,aq⟩;have M:Hid (qa w w5):=κ ((qa.drewN w 1).trans aq);have Y:=κ (SlI.of_owns N aC.o);have ay:Hid (∀g,v5.ownBlock=some g->w.heap.size<=g):=κ (λg G=>jS N G);obtain⟨aJ,aK,rfl⟩:=xl N;clear N aq;refine⟨_,rfl,qi (qg.of_more M.o),I _ _ ?_⟩;clear I K ax
  obtain⟨aL,aw,am,_⟩:=(d.o.on M.o).data (λg=>b≠[]/\(δ aJ b.length aK).ownBlock=some g) (λg G=>by
   have ak:w.heap.size<=g:=ay.o g G.2
   exact⟨aB.o g ak,Nat.le_trans d.o.more.size ak,Y.o.old G.1 G.2,λhF=>by have:=(d.o.law g hF).2.2;omega⟩)
  have ag:=κ (Lf aw Y.o az.o (λap g G=>⟨am g ⟨ap,G⟩,Y.o.old ap G⟩));rw[ab,ac] at ag;have aD:=κ (d.o.at.stay M.o);clear aw am ab ac
  (refine Ql ?_;intro K I)
  (with_reducible refine ag.o.mono ?_)
  rintro e w6 ⟨aS,rfl,al,av,ai⟩;have U:=κ al;have ah:=κ (aD.o.trans av);have ad:Hid (qg (RgB k.RQ k.AQ) w w6):=κ ((qg.of_more M.o).trans ai);clear al av ai;refine⟨_,rfl,qi ad.o,I _ _ ?_⟩;clear I K
  iterate 7 (refine qE rfl rfl (qi ad.o) ?_;intro K I;go_big_quiet_op;go_big_quiet_on)
  refine qA ?_;obtain⟨_,_,O⟩:=U.o.blk;have aM:=β16 O;have aN:=qd O 16;clear O;cases aj with
  | false=>
   go_wp2;go_ret;exact⟨by rw[H.o];rfl,by rw[H.o];exact U.o,ah.o⟩
  | true=>
   have ae:=κ (U.o.cell 16 (ι (s.cnt.lost+1)) (s':={s with queue:=J,cnt:={s.cnt with lost:=s.cnt.lost+1}}) (λ_ _=>rfl) ⟨rfl,rfl,rfl,rfl,rfl,rfl,rfl,rfl,rfl⟩);go_wp2;go_ret;exact⟨by rw[H.o];rfl,by rw[H.o];exact ae.o.1,ah.o.trans ae.o.2⟩
end
theorem zw.wide {I G:Nat->Prop} {w:World} {L:Nat} {l:LnS} (h:zw I w L l) (H: ∀b,I b->G b) (M: ∀b,G b->b<w.heap.size):zw G w L l:=by
 obtain⟨k,vo,e,x⟩:=h;have J: ∀b,lnE G k vo b->lnE I k vo b:=λb d=>d.elim (λq=>Or.inl λn=>q (H b n)) Or.inr
 have a:qg (λ_=>False) w w:=qg.refl _ w
 exact⟨k,vo,e,⟨M,λb d=>H b (x.muts b d),x.dist,x.blk,x.r1.step a (λq=>q) (λq=>q) (λb q=>q.elim) (λb d=>Or.inl (J b d)),x.r2.step a (λq=>q) (λq=>q) (λb q=>q.elim) (λb d=>Or.inl (J b d)),x.r3.step a (λq=>q) (λq=>q) (λb q=>q.elim) (λb d=>Or.inl (J b d)),
  ⟨by
   obtain⟨⟨xs,o,r⟩,_⟩:=x.o
   exact⟨xs,o,λi hi=>(r i hi).other λb d=>Or.inl (d.elim (λq=>Or.inl λn=>q (H b n)) Or.inr)⟩,λb d q=>x.o.apart b d (λn=>q (H b n))⟩,x.ok⟩⟩
section
variable {T:Nat->Tg} {w0 w w1 w':World} {k:RmK} {vp vr:Value} {s:RmS} {F:List Nat}
theorem RmX.laneNew (h:RmX T w0 w k vp vr s F) {x:Int} {l:LnS} {p:Nat} (m:qa w w1) (O:zw (λb=>w.heap.size<=b/\b<w1.heap.size) w1 p l)
  (ad:jk w' k.ML (Value.int .i64) gj (qx k.LA x p)) (a:qg (λb=>b=k.ML) w1 w'):qI w0 w' {k with LA:=qx k.LA x p} {s with lanes:=qx s.lanes x l} F/\qw F w w':=by
 obtain⟨M,U⟩:=h.all .lns;have I:=h.fresh;have af:=U.lt;have J:qg (λb=>T b= .lane x∨T b= .lns) w w':=(qg.of_more m).trans (a.mono λb d=>Or.inr (by rw[d];exact M));have Y:w1.heap.size<=w'.heap.size:=a.size;obtain⟨y,z⟩:=h.own2 (t1:= .lane x) (t2:= .lns) (k':={k with LA:=qx k.LA x p}) (vp':=vp) (vr':=vr) (s':={s with lanes:=qx s.lanes x l}) ⟨η,η⟩ ⟨η,η⟩ J
  ⟨λai ah G H=>by
   simp only at G H;rw[xD] at G H;injection G with G
   injection H with H
   subst G H;refine(O.away a (λb d ac=>by rw[d] at ac;omega)).wide (λb d=>(jd I η b).2 (Or.inr ⟨rfl,d.1,Nat.lt_of_lt_of_le d.2 Y⟩)) (λb d=> ?_);rcases(jd I η b).1 d with q | q
   ·rcases Nat.lt_or_ge b w.heap.size with c | c
    ·exact Nat.lt_of_lt_of_le c J.size
    ·rw[I b c] at q;cases q
   ·exact q.2.2,by simp only[xD];rfl⟩
  ⟨(jF I η η _).2 M,ad⟩
  (λu aa ab ag y=>by
   cases u<;>first | exact y | exact absurd rfl ab | skip
   rename_i ae;have N:ae≠x:=λe=>aa (by rw[e])
   unfold RmK.Holds at y ⊢;simp only;rw[vF _ _ N,vF _ _ N]
   exact y)
 exact⟨⟨_,_,_,y⟩,z⟩
theorem RmX.strNew (h:RmX T w0 w k vp vr s F) {o:Og} {t:zu} {p d:Nat} {v:Value} (m:qa w w1) (ad:w.heap.size<=p/\p<w1.heap.size) (ab:w.heap.size<=d/\d<w1.heap.size) (N:p≠d)
  (blk:w1.heap[p]? =some (.cells (gK d t) 124 (0,0))) (buf:xZ w1 d v t.buf) (ai:JOK t.buf) (aa:v.ownBlock=none)
  (ah:jk w' k.MS kO gj (qx k.SA o p)) (a:qg (λb=>b=k.MS) w1 w'):qI w0 w' {k with SA:=qx k.SA o p} {s with strs:=qx s.strs o t} F/\qw F w w':=by
 obtain⟨Y,ac⟩:=h.all .sts;have M:=h.fresh;have ak:=ac.lt;have U:qg (λb=>T b= .str o∨T b= .sts) w w':=(qg.of_more m).trans (a.mono λb G=>Or.inr (by rw[G];exact Y));have ae:w1.heap.size<=w'.heap.size:=a.size;have O: ∀b,w.heap.size<=b/\b<w1.heap.size->jZ T (.str o) w w' b= .str o:=λb G=>(jd M η b).2 (Or.inr ⟨rfl,G.1,Nat.lt_of_lt_of_le G.2 ae⟩)
 obtain⟨y,z⟩:=h.own2 (t1:= .str o) (t2:= .sts) (k':={k with SA:=qx k.SA o p}) (vp':=vp) (vr':=vr) (s':={s with strs:=qx s.strs o t}) ⟨η,η⟩ ⟨η,η⟩ U
  ⟨λam al I J=>by
   simp only at I J;rw[xD] at I J;injection I with I
   injection J with J
   subst I J;refine⟨d,v,a.blk blk τ,⟨a.blk buf.blk τ,buf.row.away a (λg H=>by rw[aa] at H;cases H)⟩,ai,λb G=> ?_,O _ ad,O _ ab,N,λg H=>by rw[aa] at H;cases H⟩;rcases(jd M η b).1 G with q | q
   ·rcases Nat.lt_or_ge b w.heap.size with c | c
    ·exact Nat.lt_of_lt_of_le c U.size
    ·rw[M b c] at q;cases q
   ·exact q.2.2,by simp only[xD];rfl⟩
  ⟨(jF M η η _).2 Y,ah⟩
  (λu af ag O y=>by
   cases u<;>first | exact y | exact absurd rfl ag | skip
   rename_i aj;have N:aj≠o:=λe=>af (by rw[e])
   unfold RmK.Holds at y ⊢;simp only;rw[vF _ _ N,vF _ _ N]
   exact y)
 exact⟨⟨_,_,_,y⟩,z⟩
theorem Pz {t:TS} {x d:Int} (h: ¬(yI t x d).2=0):(yI t x d).1=t:=by
 unfold yI at h ⊢;split
 ·rename_i G;rw[if_pos G] at h;split
  ·rfl
  ·rename_i H;rw[if_neg H] at h;exact absurd rfl h
 ·rfl
theorem Hr (aE:qI w0 w k s F) (am:xY s.cfg=true) (x d sq st:Int) (ap:U16 sq) (ao:U32 d):
  Calls prog 24 #[γ k.R,ι x,ω d,φ sq,ω st] w λe w'=> ∃k',k'.R=k.R/\e= .returned (ι (s.join x d sq st).2)/\qI w0 w' k' (s.join x d sq st).1 F/\qw F w w':=by
 obtain⟨T,vp,aK,h⟩:=aE;have aa:=κ h;have M:=κ (kF am);have aC:=β7 h.blk;have aI:=β11 h.blk;obtain⟨aD,ag⟩:=ν (s.closed);rw[ag] at aC;have ac:=κ ag;clear ag h am;cases aD with
 | true=>
  have N:Hid (s.join x d sq st=(s,7)):=κ (by unfold RmS.join;rw[if_pos ac.o]);rw[N.o]
  go_enter func24,ntmps24
  go_wp2;go_ret;exact⟨k,rfl,rfl,aa.o.at,qw.refl _ _⟩
 | false=>
  have Y:=κ (Ld aa.o.tab x d);obtain⟨ae,H⟩:=ν ((yI s.tab x d).2);obtain⟨aF,ab⟩:=ν ((yI s.tab x d).1);by_cases e0:ae=0
  ·subst e0;have N:Hid (s.join x d sq st=({s with tab:=aF,lanes:=qx s.lanes x (Vd s.cfg.room.toNat s.cfg.most d sq st)},0)):=κ (by unfold RmS.join;rw[if_neg (by rw[ac.o];decide),if_pos H,ab]);rw[H,ab] at Y;rw[N.o];clear H ab;have az:=κ (λw'=>Iu s.cfg.room s.cfg.most d sq st s.cfg.room.toNat (by have:=M.o.1;omega) (by have:=M.o.1;omega) (by have:=M.o.1;omega) M.o.2.2.2.1 M.o.2.2.2.2 ap ao w');clear ap ao
   go_enter func24,ntmps24
   go_upto_region 6 with (go_at_call 73;(go_call Y.o as e w1 ⟨rfl,U,O⟩;have J:=κ (KK aa.o U O);clear U O))
   obtain⟨aG,aJ,aL,au⟩:=J.o.1;have G:=κ au;clear au;have ai: ¬k.R=k.ML:=λe=>by have q:=(G.o.all .room).1;rw[e,(G.o.all .lns).1] at q;cases q
   have ax: ∀y:qz (λb=>b=k.ML) w1,y.w'.cell? ⟨k.R,12,none⟩=some (.map (some k.ML)):=λy=>qb (y.h.blk G.o.blk ai) 12 rfl
   have aw: ∀y:qz (λb=>b=k.ML) w1,y.w'.cell? ⟨k.R,1,none⟩=some (ι s.cfg.room):=λy=>qb (y.h.blk G.o.blk ai) 1 rfl
   have ay: ∀y:qz (λb=>b=k.ML) w1,y.w'.cell? ⟨k.R,6,none⟩=some (ι s.cfg.most):=λy=>qb (y.h.blk G.o.blk ai) 6 rfl
   refine QN (λb=>b=k.ML) w1 24 24 [19,23] ?_
   refine ND ?_
   (refine Ql ?_;intro K I)
   go_call az.o _ as e w5 ⟨L,rfl,ar,ah⟩;have ad:Hid (qa w1 w5):=κ ((qa.drewN w1 1).trans ah);have al:=κ (G.o.on (qa.drewN w1 1));have ak:=κ ah;have aA:=κ ar;clear ah ar;refine⟨_,rfl,qi (qg.of_more ad.o),I _ _ ?_⟩;clear I K
   iterate 3 (refine qE rfl rfl (qi (qg.of_more ad.o)) ?_;intro K I;go_big_quiet_op;go_big_quiet_on)
   clear ax aw ay;obtain⟨w9,aq,an,af,_⟩:=(al.o.lnm.more ak.o).update kE underlying83 x L;have aj:=κ (al.o.laneNew ak.o aA.o an af);have aB:=κ (G.o.at.stay (qa.drewN w1 1));unfold gj at aq;have av:Hid (qg (λb=>b=k.ML) w1 w9):=κ ((qg.of_more ad.o).trans af)
   (refine Ql ?_;intro K I)
   refine⟨qi av.o,I _ _ ?_⟩;clear I K an af aq;refine qA ?_;go_wp2;go_ret;exact⟨{k with LA:=qx k.LA x L},rfl,rfl,aj.o.1,J.o.2.trans (aB.o.trans aj.o.2)⟩
  ·have aH:(ae != 0)=true:=by simp[e0]
   have N:Hid (s.join x d sq st=(s,ae)):=κ (by unfold RmS.join;rw[if_neg (by rw[ac.o];decide),H,if_neg e0]);rw[Pz (by rw[H];exact e0),H] at Y;rw[N.o];clear H ab e0
   go_enter func24,ntmps24
   go_wp2_with (go_at_call 73;(go_call Y.o as e w1 ⟨rfl,U,O⟩;have J:=κ (KK aa.o U O);clear U O))
   go_ret;exact⟨k,rfl,rfl,J.o.1,J.o.2⟩
end
def Hu (c:CfR) (p:Int) (m:List (Og×zu)):Nat->List (Og×zu)
 | 0=>m
 | i+1=>qx (Hu c p m i) (p,(i:Int)) (uc c)
theorem Bn {t:TS} {p s0 s1 s2:Int} (h: ¬(vA t p s0 s1 s2).2=0):(vA t p s0 s1 s2).1=t:=by
 unfold vA at h ⊢;split
 ·rename_i d;rw[if_pos d] at h;split
  ·rfl
  ·rename_i G;rw[if_neg G] at h;split
   ·rfl
   ·rename_i H;rw[if_neg H] at h;split
    ·rfl
    ·rename_i I;rw[if_neg I] at h;exact absurd rfl h
 ·rfl
section
variable {T:Nat->Tg} {w0 w w1 w':World} {k:RmK} {vp vr:Value} {s:RmS} {F:List Nat}
theorem Mu {t:TS} (h:RmX T w0 w k vp vr s F) (b:jq w' k.tb k.ta k.tc k.td t) (a:qg (λx=>x=k.ta∨x=k.tc) w w'):qI w0 w' k {s with tab:=t} F/\qw F w w':=
 h.table b (a.mono λ_ e=>e.elim Or.inl λq=>Or.inr (Or.inl q))
theorem V0 (bg:qI w0 w k s F) (aJ:xY s.cfg=true) (p s0 s1 s2:Int):
  Calls prog 23 #[γ k.R,ι p,θ #[ω s0,ω s1,ω s2]] w λe w'=> ∃k',k'.R=k.R/\e= .returned (ι (s.publish p s0 s1 s2).2)/\qI w0 w' k' (s.publish p s0 s1 s2).1 F/\qw F w w':=by
 obtain⟨T,vp,bn,h⟩:=bg;obtain⟨W1,J⟩:=ν (w.alloc (.cells #[ω s0,ω s1,ω s2] 39));have aC:Hid (qa w W1):=κ (by rw[<-J];exact qa.alloc _ _);have aT:Hid (W1.heap[w.heap.size]? =some (.cells #[ω s0,ω s1,ω s2] 39 (0,0))):=κ (by rw[<-J];exact qj w _);have d:=κ (h.on aC.o);have aE:=κ (h.at.stay aC.o);have ay:=κ (kF aJ);have be:=β7 d.o.blk;obtain⟨bf,ak⟩:=ν (s.closed);rw[ak] at be;have ac:=κ ak;clear ak aJ;cases bf with
 | true=>
  have G:Hid (s.publish p s0 s1 s2=(s,7)):=κ (by unfold RmS.publish;rw[if_pos ac.o]);rw[G.o];clear h
  go_enter func23,ntmps23
  go_upto_region 1 with fail
  (try rw[J])
  clear J;go_wp2;go_ret;exact⟨k,rfl,rfl,d.o.at,aE.o⟩
 | false=>
  have ae:=κ (Dw (d.o.tab.more (qa.drewN W1 1)) p s0 s1 s2);unfold kJ at ae;obtain⟨ai,am⟩:=ν ((vA s.tab p s0 s1 s2).2);obtain⟨aq,ao⟩:=ν ((vA s.tab p s0 s1 s2).1);rw[am,ao] at ae;have aR: ¬(k.R=k.ta∨k.R=k.tc):=by
   obtain⟨_,N,O,_⟩:=d.o.all .table;rintro(e | e)
   ·rw[<-e,(d.o.all .room).1] at N;cases N
   ·rw[<-e,(d.o.all .room).1] at O;cases O
  have aQ: ¬(w.heap.size=k.ta∨w.heap.size=k.tc):=by
   obtain⟨_,N,O,_⟩:=h.all .table;have aS:=h.fresh w.heap.size (Nat.le_refl _);rintro(e | e)
   ·rw[<-e,aS] at N;cases N
   ·rw[<-e,aS] at O;cases O
  have aW:=λ(x:qz (λb=>b=k.ta∨b=k.tc) W1)=>β11 (x.h.blk d.o.blk aR)
  have Y:=λ(x:qz (λb=>b=k.ta∨b=k.tc) W1)=>x.h.blk aT.o aQ
  have aZ:=λx=>β0 (Y x);have ba:=λx=>β1 (Y x);have bb:=λx=>β2 (Y x);clear Y
  clear h aR aQ;have ad:=κ am;have aA:=κ ao;clear am ao
  go_enter func23,ntmps23
  go_upto_region 1 with fail
  (try rw[J])
  clear J
  go_upto_region 3 with fail
  refine QN (λb=>b=k.ta∨b=k.tc) W1 8 8 [6] ?_
  refine Qs6 ?_
  (refine Ql ?_;intro K H)
  (with_reducible refine ae.o.mono ?_)
  rintro e w2 ⟨rfl,aG,ah⟩;have au:Hid (qg (λb=>b=k.ta∨b=k.tc) W1 w2):=κ (((qg.refl _ W1).drewN 1).trans ah);have ab:=κ (Mu (d.o.on (qa.drewN W1 1)) aG ah);have aF:=κ (aE.o.trans ((d.o.at.stay (qa.drewN W1 1)).trans ab.o.2));clear aG ah;refine⟨_,rfl,qi au.o,H _ _ ?_⟩;clear H K aW aZ ba bb
  iterate 1 (refine qE rfl rfl (qi au.o) ?_;intro K H;go_big_quiet_op;go_big_quiet_on)
  refine qA ?_;by_cases e0:ai=0
  ·subst e0;have G:Hid (s.publish p s0 s1 s2=({s with tab:=aq,strs:=Hu s.cfg p s.strs 3},0)):=κ (by unfold RmS.publish;rw[if_neg (by rw[ac.o];decide),if_pos ad.o,aA.o];rfl);go_wp2
   go_loopw [25] (λap wr=> ∃i:Nat,i<=3/\ap= ι i/\(∃I:RmK,I.R=k.R/\qI w0 wr I {s with tab:=aq,strs:=Hu s.cfg p s.strs i} F)/\qw F w2 wr) (λap _=>3-(intOf ap).toNat)
   case atStart=>exact⟨0,τ,rfl,⟨k,rfl,ab.o.1⟩,qw.refl _ _⟩
   case round=>
    obtain⟨i,hi,rfl,⟨I,aK,aM⟩,aN⟩:=hrel;have az:=κ aM;have aB:=κ aN;have U:=κ aK;clear aM aN aK;by_cases hlt:i<3
    ·have bh:(i:Int)<3:=by omega
     obtain⟨bj,bm,bo,ar⟩:=az.o;have ag:=κ ar;have aj:=ar.blk;rw[U.o] at aj;have aw:=κ aj;have aX: ∀y:qt wr,y.w'.cell? ⟨k.R,2,none⟩=some (ι s.cfg.hold):=λy=>qb (qc y.h aw.o) 2 rfl
     have aY: ∀y:qt wr,y.w'.cell? ⟨k.R,3,none⟩=some (ι s.cfg.wait):=λy=>qb (qc y.h aw.o) 3 rfl
     have bc:=κ (YM s.cfg.hold s.cfg.wait (wr.drewN 1) ay.o.2.1);clear ar aj
     go_upto_region 9 with fail
     refine Qn wr 16 16 [10] ?_
     refine NC ?_
     (refine Ql ?_;intro K H)
     (with_reducible refine bc.o.mono ?_)
     rintro e w5 ⟨rfl,aH,aP,aO⟩;have aa:Hid (qa wr w5):=κ ((qa.drewN wr 1).trans aP);have aU:Hid (xZ w5 wr.heap.size (δ none 0 0) (CU s.cfg.hold s.cfg.wait)):=κ aH;have af:Hid (wr.heap.size<w5.heap.size):=κ aO;clear aH aP aO;refine⟨_,rfl,qk aa.o,H _ _ ?_⟩;clear H K aX aY
     iterate 5 (refine qE rfl rfl (qk aa.o) ?_;intro K H;go_big_quiet_op;go_big_quiet_on)
     refine qA ?_;obtain⟨W6,M⟩:=ν (w5.alloc (.cells #[γ wr.heap.size,false,ι 0,false,false,ι 0,ι 0,false] 124));have aD:Hid (qa wr W6):=κ (by rw[<-M];exact aa.o.al _);have av:Hid (W6.heap[w5.heap.size]? =some (.cells (gK wr.heap.size (uc s.cfg)) 124 (0,0))):=κ (by rw[<-M];exact qj w5 _);have aV:Hid (xZ W6 wr.heap.size (δ none 0 0) (uc s.cfg).buf):=κ (by rw[<-M];exact aU.o.on (qa.alloc _ _));obtain⟨w9,bi,aL,aI,_⟩:=(ag.o.stm.more aD.o).update Yr underlying84 (p,(i:Int)) w5.heap.size;have ax:=κ (ag.o.strNew (t:=uc s.cfg) aD.o ⟨Nat.le_of_lt af.o,qn av.o⟩ ⟨Nat.le_refl _,Nat.lt_of_lt_of_le af.o (by rw[<-M];exact(qa.alloc _ _).size)⟩ (λe=>by have:=af.o;omega) av.o aV.o (EJ ay.o.2.1) rfl aL aI);unfold gj kO at bi;have an:=ag.o.blk;rw[U.o] at an;have bl:w5.cell? ⟨k.R,13,none⟩=some (.map (some I.MS)):=qb (qc aa.o an) 13 rfl;clear aL aI an
     go_wp2_with ((try rw[M]);fail)
     go_roundw
     case rel=>exact⟨i+1,τ,by go_num,⟨{I with SA:=qx I.SA (p,(i:Int)) w5.heap.size},U.o,ax.o.1⟩,aB.o.trans ax.o.2⟩
     case measure=>simp[intOf];omega
    ·obtain rfl:i=3:=by omega
     have bh: ¬((3:Nat):Int)<3:=by omega
     go_wp2;go_ret;exact⟨I,U.o,by rw[G.o];rfl,by rw[G.o];exact az.o,aF.o.trans aB.o⟩
  ·have bk:(ai != 0)=true:=by simp[e0]
   have G:Hid (s.publish p s0 s1 s2=(s,ai)):=κ (by unfold RmS.publish;rw[if_neg (by rw[ac.o];decide),ad.o,if_neg e0]);have bd:Hid (aq=s.tab):=κ (by rw[<-aA.o];exact Bn (by rw[ad.o];exact e0));clear e0;go_wp2;go_ret;exact⟨k,rfl,by rw[G.o];rfl,by rw[G.o];have h:=ab.o.1;rw[bd.o] at h;exact h,aF.o⟩
end
section
variable {T:Nat->Tg} {w0 w w1 w':World} {k:RmK} {vp vr:Value} {s:RmS} {F:List Nat}
theorem FE (h:RmX T w0 w k vp vr s F) (aU: ∀a∈s.pks,uj a.pk) (bx:s.pks.length<=1000000) {i:Nat} (hi:i<s.pks.length) {a:AcS} (aE:s.pks[i]=a):
  Calls prog 12 #[γ k.R,ι (i:Int)] w λe w'=> ∃os ab aa ac ke U,e= .returned (.tuple #[(Γi a.o.1 a.o.2 a.num a.pk os ac ab ke aa U),true])/\PkS w' (δ os a.pk.ss.length ac) (δ ab a.pk.ex.length ke) (δ aa a.pk.pl.length U) a.pk/\qa w w':=by
 obtain⟨g,cap,os,ab,aa,ac,ke,U,rfl,_,bw,aF,aG⟩:=h.pkRow hi;rw[aE] at aF aG;have am:=κ aG.pk;have ae:=κ (aU a (by rw[<-aE];exact List.getElem_mem hi));obtain⟨W2,ap⟩:=ν (w.alloc (.cells #[ι 0,ι 0,ι 0,false,υ 0,φ 0,ω 0,ω 0,(),false,φ 0,(),()] 57));have an:Hid (qa w W2):=κ (by rw[<-ap];exact qa.alloc _ _);have aI:Hid (W2.heap[w.heap.size]? =some (.cells #[ι 0,ι 0,ι 0,false,υ 0,φ 0,ω 0,ω 0,(),false,φ 0,(),()] 57 (0,0))):=κ (by rw[<-ap];exact qj w _);have aZ:Hid (W2.rangeAt g (i* 13) (Γi a.o.1 a.o.2 a.num a.pk os ac ab ke aa U)):=κ (λj v bz=>by rw[an.o.cells _ _ bw];exact aF j v bz);have br:=β14 (qc an.o h.blk);have bD:(i:Int)<(s.pks.length:Int):=by omega
 clear aF aG aU aE h bx
 go_enter func12,ntmps12
 go_upto_region 1 with fail
 (try rw[ap])
 clear ap
 go_upto_region 4 with (refine wpList_load_mid rfl 57 (.tmp 24) rfl g (i* 13) rfl (Γi a.o.1 a.o.2 a.num a.pk os ac ab ke aa U) _ aZ.o underlying57 rfl ξ ?_)
 obtain⟨af,aq⟩:=ν (W2.alloc (.cells (Γi a.o.1 a.o.2 a.num a.pk os ac ab ke aa U) 57));have aQ:Hid (qa W2 af):=κ (by rw[<-aq];exact qa.alloc _ _);have av:Hid (af.heap[W2.heap.size]? =some (.cells (Γi a.o.1 a.o.2 a.num a.pk os ac ab ke aa U) 57 (0,0))):=κ (by rw[<-aq];exact qj W2 _)
 (try rw[aq])
 clear aq br;have ad:Hid (w.heap.size<W2.heap.size):=κ (qn aI.o);have aD:=κ (am.o.keep (an.o.trans aQ.o));have az:Hid (W2.heap.size<af.heap.size):=κ (qn av.o);have bs:=β8 av.o;have aM:=κ (Ad _ a.pk.ss af aD.o.s ae.o.s)
 go_upto_region 5 with (go_at_call 45;(go_call aM.o as e w1 ⟨⟨v0,rfl,I⟩,H⟩;have bd:Hid (qa W2 w1):=κ (aQ.o.trans H);have bg:=κ (SlI.of_owns I (by have:=ae.o.s;omega));have ao:Hid (∀q,v0.ownBlock=some q->W2.heap.size<q):=κ (λq d=>Nat.lt_of_lt_of_le az.o (jS I d));have aA:=κ H;obtain⟨M,J,rfl⟩:=xl I;have aw:=κ (qc H av.o);have bC:=β8 aw.o;have bv:=qd aw.o 8;clear I H))
 obtain⟨ag,G⟩: ∃W',w1.setCell ⟨W2.heap.size,8,none⟩ (δ M a.pk.ss.length J)=W':=⟨_,rfl⟩;have aK:Hid (ag.heap[W2.heap.size]? =some (.cells (Γi a.o.1 a.o.2 a.num a.pk M J ab ke aa U) 57 (0,0))):=κ (by rw[<-G];exact qB (qp aw.o 8 (δ M a.pk.ss.length J)) rfl);have bb:Hid (qa W2 ag):=κ (by rw[<-G];exact bd.o.st (Nat.le_refl _) _);have ak:Hid (qg (λb=>b=W2.heap.size) w1 ag):=κ (by rw[<-G];exact qg.set (S:=λb=>b=W2.heap.size) (qg.refl _ _) (p:=⟨W2.heap.size,8,none⟩) rfl _);have bj:=κ (bg.o.off2 (λ_ q d e=>by have:=ao.o q d;omega) ak.o);have aW:=κ ((aD.o.e.keep aA.o).off2 (λaj b ai e=>by have:=am.o.e.old aj ai;have:=ad.o;omega) ak.o);have aX:=κ ((aD.o.l.keep aA.o).off2 (λaj b ai e=>by have:=am.o.l.old aj ai;have:=ad.o;omega) ak.o);have aP:Hid (af.heap.size<=ag.heap.size):=κ (Nat.le_trans (Nat.le_refl _) (Nat.le_trans aA.o.size ak.o.size))
 (try rw[G])
 clear G bs bC bv aM;have bp:=β11 aK.o;have aN:=κ (wQ _ a.pk.ex ag aW.o ae.o.e)
 go_upto_region 6 with (go_at_call 46;(go_call aN.o as e w2 ⟨⟨v1,rfl,I⟩,H⟩;have be:Hid (qa W2 w2):=κ (bb.o.trans H);have bh:=κ (SlI.of_owns I (by have:=ae.o.e;omega));have aC:Hid (∀q,v1.ownBlock=some q->W2.heap.size<q):=κ (λq d=>Nat.lt_of_lt_of_le (Nat.lt_of_lt_of_le az.o aP.o) (jS I d));have aB:=κ H;obtain⟨o2,N,rfl⟩:=xl I;have ax:=κ (qc H aK.o);have bA:=β11 ax.o;have bt:=qd ax.o 11;clear I H))
 obtain⟨ah,G⟩: ∃W',w2.setCell ⟨W2.heap.size,11,none⟩ (δ o2 a.pk.ex.length N)=W':=⟨_,rfl⟩;have aL:Hid (ah.heap[W2.heap.size]? =some (.cells (Γi a.o.1 a.o.2 a.num a.pk M J o2 N aa U) 57 (0,0))):=κ (by rw[<-G];exact qB (qp ax.o 11 (δ o2 a.pk.ex.length N)) rfl);have bc:Hid (qa W2 ah):=κ (by rw[<-G];exact be.o.st (Nat.le_refl _) _);have al:Hid (qg (λb=>b=W2.heap.size) w2 ah):=κ (by rw[<-G];exact qg.set (S:=λb=>b=W2.heap.size) (qg.refl _ _) (p:=⟨W2.heap.size,11,none⟩) rfl _);have bm:=κ (bh.o.off2 (λ_ q d e=>by have:=aC.o q d;omega) al.o);have bk:=κ ((bj.o.keep aB.o).off2 (λ_ q d e=>by have:=ao.o q d;omega) al.o);have aY:=κ ((aX.o.keep aB.o).off2 (λaj b ai e=>by have:=am.o.l.old aj ai;have:=ad.o;omega) al.o);have ba:Hid (af.heap.size<=ah.heap.size):=κ (Nat.le_trans aP.o (Nat.le_trans aB.o.size al.o.size))
 (try rw[G])
 clear G bp bA bt aN;have bq:=β12 aL.o;have aO:=κ (wQ _ a.pk.pl ah aY.o ae.o.l)
 go_upto_region 7 with (go_at_call 46;(go_call aO.o as e aH ⟨⟨v2,rfl,I⟩,H⟩;have bf:Hid (qa W2 aH):=κ (bc.o.trans H);have bi:=κ (SlI.of_owns I (by have:=ae.o.l;omega));have aT:Hid (∀q,v2.ownBlock=some q->W2.heap.size<q):=κ (λq d=>Nat.lt_of_lt_of_le (Nat.lt_of_lt_of_le az.o ba.o) (jS I d));have aS:=κ H;obtain⟨Y,O,rfl⟩:=xl I;have ay:=κ (qc H aL.o);have bB:=β12 ay.o;have bu:=qd ay.o 12;clear I H))
 obtain⟨W6,G⟩: ∃W',aH.setCell ⟨W2.heap.size,12,none⟩ (δ Y a.pk.pl.length O)=W':=⟨_,rfl⟩;have aV:Hid (W6.heap[W2.heap.size]? =some (.cells (Γi a.o.1 a.o.2 a.num a.pk M J o2 N Y O) 57 (0,0))):=κ (by rw[<-G];exact qB (qp ay.o 12 (δ Y a.pk.pl.length O)) rfl);have aR:Hid (qa W2 W6):=κ (by rw[<-G];exact bf.o.st (Nat.le_refl _) _);have ar:Hid (qg (λb=>b=W2.heap.size) aH W6):=κ (by rw[<-G];exact qg.set (S:=λb=>b=W2.heap.size) (qg.refl _ _) (p:=⟨W2.heap.size,12,none⟩) rfl _);have bo:=κ (bi.o.off2 (λ_ q d e=>by have:=aT.o q d;omega) ar.o);have bl:=κ ((bk.o.keep aS.o).off2 (λ_ q d e=>by have:=ao.o q d;omega) ar.o);have bn:=κ ((bm.o.keep aS.o).off2 (λ_ q d e=>by have:=aC.o q d;omega) ar.o)
 (try rw[G])
 clear G bq bB bu aO;have aJ:Hid (W6.heap[w.heap.size]? =some (.cells #[ι 0,ι 0,ι 0,false,υ 0,φ 0,ω 0,ω 0,(),false,φ 0,(),()] 57 (0,0))):=κ (qc aR.o aI.o)
 go_upto_region 7 with fail
 go_wp2_with (first | (refine wpList_load_row rfl 57 (.tmp 6) rfl W2.heap.size rfl _ (Γi a.o.1 a.o.2 a.num a.pk M J o2 N Y O) _ _ aV.o underlying57 rfl ξ ?_) | (refine zr rfl 57 (.tmp 4) (.tmp 44) rfl w.heap.size 57 _ (Γi a.o.1 a.o.2 a.num a.pk M J o2 N Y O) aJ.o rfl rfl ξ rfl (by simp[Value.oneCell']) ?_))
 (refine bodyPost_ret (v:= .tuple #[(Γi a.o.1 a.o.2 a.num a.pk M J o2 N Y O),true]) (yo results12 _ _ (w.heap.size) 57 (Γi a.o.1 a.o.2 a.num a.pk M J o2 N Y O) _ _ rfl rfl (jM aJ.o (Γi a.o.1 a.o.2 a.num a.pk M J o2 N Y O)) underlying57 rfl ξ) rfl ?_)
 have au:=qg.setRow W6 w.heap.size (Γi a.o.1 a.o.2 a.num a.pk M J o2 N Y O);refine⟨_,_,_,_,_,_,rfl,⟨bl.o.off2 (λ_ q d e=>by have:=ao.o q d;have:=ad.o;omega) au,bn.o.off2 (λ_ q d e=>by have:=aC.o q d;have:=ad.o;omega) au,bo.o.off2 (λ_ q d e=>by have:=aT.o q d;have:=ad.o;omega) au⟩,(an.o.trans aR.o).row (Nat.le_refl _) _⟩
end
theorem Ie: ∀(w:World) (cs:List Value) (y:RqS),RRq w cs y-> ∀u∈cs,u.oneCell'=true:=by
 rintro w cs y ⟨v,rfl,⟨G,cap,rfl,_⟩⟩ u d;simp at d;rcases d with rfl | rfl | rfl | rfl<;>rfl
theorem Em (w:World):je 4 RRq (λ_=>False) (w.alloc (.cells #[] 105)) w.heap.size 105 (δ (some ⟨w.heap.size,0,none⟩) 0 0) []:=
 ⟨⟨[],by simpa using World.ownsRow_lit (e:=105) (size:=4) (base:=w.heap.size) w #[] 0 (Nat.le_refl _) (by unfold maxLen;omega) rfl,λi hi=>by simp at hi⟩,λ_ _ h=>h⟩
theorem Ft (v:Value) (l:List RqS) (w:World) (h:SlP 4 RRq w v l) (H:l.length<=1000000):
  Calls prog 81 #[v] w λe w'=>(∃v',e= .returned v'/\je 4 RRq (λ_=>False) w' w.heap.size 105 v' l)/\qa w w':=by
 obtain⟨aj,hi,ag,ah,ai⟩:=info_parts (P:=prog) (e:=105) (z:= θ #[ι 0,ι 0,ι 0,()]) (size:=4) (bytes:=48) ξ;have I:=κ h;have ab:=κ H;obtain⟨ak,cap,rfl,J,M,N,O,d⟩:=h;cases ak with
 | none=>
  obtain rfl:cap=0:=d rfl;obtain rfl:l=[]:=List.eq_nil_of_length_eq_zero τ;clear I J M N O d H;have af:=λw=>Lib.run_eql_slice_nil (P:=prog) w 86 105 none 0 0 0 0 underlying86
  go_enter func81,ntmps81
  go_wp2;go_ret;exact⟨⟨_,rfl,je.nil 4 RRq _ _ _ _⟩,qa.refl _⟩
 | some ad=>
  clear J M N O d H;have af:=λw=>Lib.run_eql_slice_nil (P:=prog) w 86 105 (some ad) l.length cap 0 0 underlying86
  go_enter func81,ntmps81
  go_wp2_with (at_builtin;refine ym w _ rfl (.tmp 5) (.tmp 6) 86 rfl w.heap.size 105 aj (θ #[ι 0,ι 0,ι 0,()]) 4 48 underlying86 hi ag ah ai rfl ζ Fe Ie _ [] rfl (Em w) _ l rfl I.o (qa.alloc _ _) (λb G=>by cases G;exact Nat.le_refl _) ζ (by have:=ab.o;simp;omega) (qa.alloc w _).size ?_;intro v2 w2 Y U ae;have ac:=κ Y;have aa:Hid (qg (λb=>(δ (some ⟨w.heap.size,0,none⟩) 0 0).ownBlock=some b) (w.alloc (.cells #[] 105)) w2):=κ (qg.of_grown U);clear Y U ae)
  go_ret;refine⟨⟨_,rfl,by simpa using ac.o⟩, ?_⟩;exact((qg.of_more (S:=λb=>b=w.heap.size) (qa.alloc w _)).trans (aa.o.mono λb G=>by injection G with e;exact e.symm)).to_more (qa.refl _) (λk e=>by rw[e];exact Nat.le_refl _)
theorem El {w:World} {base:Nat} {v:Value} {N o2 I:Int} {body:List Int} (h:je 4 RRq (λ_=>False) w base 105 v [⟨(N,o2),I,body⟩]):
  ∃g cap cur G d,v= δ (some ⟨g,0,none⟩) 1 cap/\base<=g/\w.heap[g]? =some (.cells cur 105 (0,0))/\(∀j v,[ι N,ι o2,ι I,δ G body.length d][j]? =some v->w.cell? ⟨g,j,none⟩=some v)/\SlI .u8 w (δ G body.length d) body:=by
 obtain⟨⟨xs,O,r⟩,_⟩:=h;rcases id O.2 with ⟨_,U⟩ | ⟨g,cap,cur,rfl,aa,Y,ad,ae,af,ag⟩
 ·simp at U
 have ac:=r 0 η;obtain⟨vb,e,H⟩:=ac.read;have H:SlI .u8 w vb body:=H;obtain⟨G,d,rfl,_⟩:=id H;simp only[Nat.zero_mul,List.drop_zero] at e;refine⟨g,cap,cur,G,d,rfl,aa,Y,λj v M=> ?_,H⟩;have ab:j<4:=by
  have:=(List.getElem?_eq_some_iff.1 M).1
  simpa using this
 rw[O.cellAt j (by simp;omega)];have J:=congrArg (λl:List Value=>l[j]?) e;simp only[List.getElem?_take,if_pos ab] at J;rw[J];exact M
section
variable {T:Nat->Tg} {w0 w w1 w':World} {k:RmK} {vp vr:Value} {s:RmS} {F:List Nat}
theorem Mw (h:RmX T w0 w k vp vr s F) {ah o2 af:Int} {body:List Int} (az:s.reqs=[⟨(ah,o2),af,body⟩]) (G:body.length<=1000000):
  Calls prog 27 #[γ k.R] w λe w'=> ∃g cap O M,e= .returned (δ (some ⟨g,0,none⟩) 1 cap)/\w.heap.size<=g/\g<w'.heap.size/\(∀j v,[ι ah,ι o2,ι af,δ O body.length M][j]? =some v->w'.cell? ⟨g,j,none⟩=some v)/\
   SlI .u8 w' (δ O body.length M) body/\(∀b,(δ O body.length M).ownBlock=some b->w.heap.size<=b)/\qa w w':=by
 have aQ:=κ h;have aR:=β15 h.blk;have ad:=(h.all .reqs).1.sl ζ;rw[az] at ad;have al:=κ (Ft _ _ _ ad η);obtain⟨aW,aS,rfl,_⟩:=ad;simp only[List.length_cons,List.length_nil,Nat.zero_add] at al;have ak:=κ G;clear h az G
 go_enter func27,ntmps27
 go_upto_region 2 with (go_at_call 81;(go_call al.o as e w1 ⟨⟨v1,rfl,aC⟩,aA⟩;obtain⟨g,cap,cur,O,M,rfl,av,au,ar,aD⟩:=El aC;have I:=κ ar;have aI:=κ aD;have am:=κ av;have d:=κ au;have an:=κ aA;clear aC aA ar aD av au))
 go_wp2
 go_loopw [12] (λag wr=> ∃j:Nat,j<=1/\ag= ι j/\((j=0/\wr=w1)∨(j=1/\g<wr.heap.size/\qa w wr/\ ∃N J,(∀q v,[ι ah,ι o2,ι af,δ N body.length J][q]? =some v->wr.cell? ⟨g,q,none⟩=some v)/\SlI .u8 wr (δ N body.length J) body/\ ∀b,(δ N body.length J).ownBlock=some b->w.heap.size<=b))) (λag _=>1-(intOf ag).toNat)
 case atStart=>exact⟨0,τ,rfl,Or.inl ⟨rfl,rfl⟩⟩
 case round=>
  obtain⟨j,aU,rfl,U⟩:=hrel;by_cases hlt:j<1
  ·obtain rfl:j=0:=by omega
   obtain rfl:wr=w1:=by
    rcases U with q | q
    ·exact q.2
    ·exact absurd q.1 τ
   have c3:=I.o 3 _ rfl;have aE:=κ (wQ _ body wr aI.o ak.o);clear U
   go_wp2_with (go_at_call 46;(go_call aE.o as e ai ⟨⟨v3,rfl,ac⟩,aa⟩;have ae:=κ aa;have aH:=κ (SlI.of_owns ac (by have:=ak.o;omega));have aj:Hid (∀q,v3.ownBlock=some q->wr.heap.size<=q):=κ (λq ay=>jS ac ay);obtain⟨ab,Y,rfl⟩:=xl ac;have aB:ai.cell? ⟨g,3,none⟩=some (δ O body.length M):=(by rw[aa.cells _ _ (lt_of_block d.o)];exact I.o 3 _ rfl);have aT:=qd (qc aa d.o) 3;clear ac aa))
   go_roundw
   case rel=>
    have aK:=lt_of_block d.o;have aG:qa w (ai.setCell ⟨g,3,none⟩ (δ ab body.length Y)):=(an.o.trans ae.o).st am.o _;refine⟨1,τ,by go_num,Or.inr ⟨rfl,Nat.lt_of_lt_of_le aK (Nat.le_trans ae.o.size (qg.set (S:=λb=>b=g) (qg.refl _ _) (p:=⟨g,3,none⟩) rfl _).size),aG,ab,Y,λq v H=> ?_,aH.o.off2 (λ_ b G e=>by have:=aj.o b G;omega) (qg.set (S:=λb=>b=g) (qg.refl _ _) (p:=⟨g,3,none⟩) rfl _),λb G=>Nat.le_trans an.o.size (aj.o b G)⟩⟩;have ay:q<4:=by
     have:=(List.getElem?_eq_some_iff.1 H).1
     simpa using this
    have aL:(ai.setCell ⟨g,3,none⟩ (δ ab body.length Y)).heap[g]? =some (.cells (cur.setIfInBounds 3 (δ ab body.length Y)) 105 (0,0)):=qp (qc ae.o d.o) 3 _;have aV:=λv H=>I.o q v H
    have aJ:3<cur.size:=by
     have:=I.o 3 _ rfl;rw[cell_of_row wr g 3 _ _ _ d.o] at this;exact(Array.getElem?_eq_some_iff.1 this).1
    rw[cell_of_row _ g q _ _ _ aL];by_cases e3:q=3
    ·subst e3;simp at H;rw[Array.getElem?_setIfInBounds_self_of_lt aJ,H]
    ·rw[Array.getElem?_setIfInBounds_ne (Ne.symm e3),<-cell_of_row wr g q _ _ _ d.o];refine I.o q v ?_;have:q=0∨q=1∨q=2:=by omega
     rcases this with rfl | rfl | rfl<;>exact H
   case measure=>simp[intOf]
  ·obtain rfl:j=1:=by omega
   obtain⟨_,aw,ax,N,J,ao,ap,aq⟩:_/\_:=by
    rcases U with q | q
    ·exact absurd q.1 τ
    ·exact q
   have aF:=κ (And.intro aw (And.intro ax (And.intro ao (And.intro ap aq))));clear U aw ax ao ap aq;go_wp2;go_ret;obtain⟨aM,aN,aB,aO,aP⟩:=aF.o;exact⟨g,⟨cap,rfl⟩,am.o,aM,N,J,aB,aO,aP,aN⟩
end
section
variable {s s':RmS} {n:Nat}
theorem Jn (L:List Int):(yp L).Nodup:=by
 have key: ∀G:List Int,G.Nodup->(G.flatMap λx=>[((2,x):Og),(3,x),(4,x)]).Nodup:=by
  intro G
  induction G with
  | nil=>intro _;exact List.nodup_nil
  | cons x G ih=>
   intro h;rw[List.nodup_cons] at h;rw[List.flatMap_cons,List.nodup_append];refine⟨η,ih h.2,λa H b d e=> ?_⟩;subst e;rw[List.mem_flatMap] at d;obtain⟨y,I,d⟩:=d;simp only[List.mem_cons,List.not_mem_nil,or_false] at H d;rcases H with rfl | rfl | rfl<;>simp at d<;>exact h.1 (by rw[d];exact I)
 unfold yp;rw[List.nodup_cons,List.nodup_cons];refine⟨λh=> ?_,λh=> ?_,key _ (List.Pairwise.filter _ (by decide:subIds.Nodup))⟩
 ·rcases List.mem_cons.1 h with h | h
  ·cases h
  ·rw[List.mem_flatMap] at h;obtain⟨y,_,h⟩:=h;simp at h
 ·rw[List.mem_flatMap] at h;obtain⟨y,_,h⟩:=h;simp at h
theorem QB {K V:Type} [DecidableEq K] {k:K}: ∀{m:List (K×V)},k∈m.map Prod.fst-> ∃v,qh m k=some v
 | [],h=>by simp at h
 | (a,b)::l,h=>by
  unfold qh;by_cases e:k=a
  ·exact⟨b,by rw[if_pos e]⟩
  ·rw[if_neg e];refine QB ?_;rw[List.map_cons] at h;exact(List.mem_cons.1 h).elim (λc=>absurd c e) id
theorem ZS {K V:Type} [DecidableEq K] {k:K} {v:V}: ∀{m:List (K×V)},qh m k=some v->k∈m.map Prod.fst
 | [],h=>by simp[qh] at h
 | (a,b)::l,h=>by
  unfold qh at h;rw[List.map_cons];by_cases e:k=a
  ·rw[e];exact List.mem_cons_self
  ·rw[if_neg e] at h;exact List.mem_cons_of_mem _ (ZS h)
theorem Vp {α:Type} {f:α->Nat}: ∀{L:List α},(∀x∈L,f x=0)->(L.map f).sum=0
 | [],_=>rfl
 | x::L,h=>by
  rw[List.map_cons,List.sum_cons,h x List.mem_cons_self,Vp (λy d=>h y (List.mem_cons_of_mem _ d))]
theorem GU (h:qV n s) (J:wN s) (ak:(s.book.map Prod.fst).Nodup) (am:(s.ret.map Prod.fst).Nodup) (al: ∀w∈s.workers,s.may w=false):
  s.queue=[]/\(s.closed=true->s.held=0/\s.ended=true)/\(∀x l,qh s.lanes x=some l->l.A=[]/\l.B=[]/\l.C=[])/\ ∀x,(jz s.book x).length<=s.held:=by
 have ad:(∀x l,qh s.lanes x=some l->l.A=[]/\l.B=[]/\l.C=[])-> ∀x,(jz s.book x).length<=s.held:=λd x=>by
  have:=(ZV h.ow ak x).2.1;unfold RmS.inL at this;cases e:qh s.lanes x with
  | none=>rw[e] at this;simp only at this;omega
  | some l=>
   obtain⟨a,b,c⟩:=d x l e;rw[e] at this;simp only[a,b,c,List.length_nil] at this;omega
 have H: ∀w∈s.workers,(if s.closed then !((qh s.ret w).getD false) else s.mayOpen w)=false:=λw I=>by
  have:=al w I;unfold RmS.may at this;rw[decide_eq_true I,Bool.true_and] at this;exact this
 have ae: ∀x l,qh s.lanes x=some l->((2,x):Og)∈s.workers/\((3,x):Og)∈s.workers/\((4,x):Og)∈s.workers:=λx l d=>by
  have G:=(h.ow.sub x l d).1;exact⟨mem_workers.2 (Or.inr (Or.inr ⟨Or.inl rfl,G,by simp only;rw[d];rfl⟩)),mem_workers.2 (Or.inr (Or.inr ⟨Or.inr (Or.inl rfl),G,by simp only;rw[d];rfl⟩)),mem_workers.2 (Or.inr (Or.inr ⟨Or.inr (Or.inr rfl),G,by simp only;rw[d];rfl⟩))⟩
 cases hc:s.closed with
 | false=>
  rw[hc] at H;simp only[Bool.false_eq_true,if_false] at H;have M: ∀x l,qh s.lanes x=some l->l.A=[]/\l.B=[]/\l.C=[]:=λx l d=>by
   obtain⟨w2,ab,w4⟩:=ae x l d;have U:=H _ w2;have Y:=H _ ab;have aa:=H _ w4;unfold RmS.mayOpen at U Y aa;simp only[(by decide: ¬(2:Int)=0),(by decide: ¬(2:Int)=1),(by decide: ¬(3:Int)=0),(by decide: ¬(3:Int)=1),(by decide: ¬(4:Int)=0),(by decide: ¬(4:Int)=1),if_false,d] at U Y aa;have N:(decide (0<l.A.length)&&decide (¬l.B.length=l.room))=false:=U;have af:decide (0<l.B.length)=false:=Y;have ag:decide (0<l.C.length)=false:=aa;have ac:l.B=[]:=List.length_eq_zero_iff.1 (by have:=of_decide_eq_false af;omega);have ai:l.C=[]:=List.length_eq_zero_iff.1 (by have:=of_decide_eq_false ag;omega);have an:=(h.ow.sub x l d).2.1;have ah:l.A=[]:=by
    rw[ac] at N;rw[decide_eq_true (by simp only[List.length_nil];omega: ¬([]:List (ItS×Bool)).length=l.room),Bool.and_true] at N;exact List.length_eq_zero_iff.1 (by have:=of_decide_eq_false N;omega)
   exact⟨ah,ac,ai⟩
  refine⟨?_,λe=>(by cases e),M,ad M⟩;have:=H (0,0) (mem_workers.2 (Or.inl rfl));unfold RmS.mayOpen at this;simp only[if_true] at this;exact List.length_eq_zero_iff.1 (by have:=of_decide_eq_false this;omega)
 | true=>
  rw[hc] at H;simp only[if_true] at H;have G: ∀w∈s.workers,(qh s.ret w).isSome=true:=λw I=>by
   have:=H w I;cases e:qh s.ret w with
   | none=>rw[e] at this;cases this
   | some v=>rfl
  have M: ∀x l,qh s.lanes x=some l->l.A=[]/\l.B=[]/\l.C=[]:=λx l d=>by
   obtain⟨w2,ab,w4⟩:=ae x l d;exact⟨(J.ch x (G _ w2)).2 l d,(J.rw x (G _ ab)).2 l d,(J.wr x (G _ w4)).2 l d⟩
  refine⟨J.rd (G _ (mem_workers.2 (Or.inl rfl))),λ_=>⟨?_, ?_⟩,M,ad M⟩
  ·have aj:=(J.jt (G _ (mem_workers.2 (Or.inr (Or.inl rfl))))).2;unfold RmS.held;refine Vp λo _=> ?_
   cases ht:qh s.strs o with
   | none=>rfl
   | some t=>simp only[aj o t ht,List.length_nil]
  ·unfold RmS.ended;rw[hc,Bool.true_and];refine decide_eq_true (Nat.le_antisymm ?_ ?_)
   ·have:=yr (m:=s.workers) am (λw I=>by
     obtain⟨v,O⟩:=QB I
     exact(J.vals w v O).2)
    rwa [List.length_map] at this
   ·have:=yr (m:=s.ret.map Prod.fst) (Jn s.there) (λw I=>by
     obtain⟨v,O⟩:=Option.isSome_iff_exists.1 (G w I)
     exact ZS O)
    rwa [List.length_map] at this
def CZ (b:List Int) (a:AcS):Prop:=jl b=(a.pk,0)/\Ve b=false/\a.num%65536=a.pk.sq
structure yE (came:List (List Int)) (s:RmS):Prop where
 sum:(came.length:Int)=s.cnt.lost+s.cnt.malf+s.cnt.strange+s.cnt.told+s.cnt.acc+s.queue.length
 fit: ∃C,(C++s.queue).Sublist came/\zb CZ C s.pks
theorem yE.same {came:List (List Int)} (h:yE came s) (I:s'.cnt=s.cnt) (d:s'.queue=s.queue) (J:s'.pks=s.pks):yE came s':=by
 obtain⟨G,H⟩:=h;rw[<-I,<-d] at G;rw[<-d,<-J] at H;exact⟨G,H⟩
theorem Loc.ct {came:List (List Int)} (k:Loc s s') (h:yE came s):yE came s':=h.same k.cnt k.queue k.pks
theorem BH (t:zu) {sq:Int} (h:0<=sq/\sq<=65535):yV t sq%65536=sq:=by
 unfold yV KH ahd;split<;>omega
theorem yE.read {came:List (List Int)} (h:yE came s) (O: ∀b∈s.queue,Byt b) (N: ∀x o,qh s.tab.o x=some o->(qh s.strs o).isSome=true):yE came s.read:=by
 unfold RmS.read;cases hqu:s.queue with
 | nil=>exact h
 | cons b q=>
  simp only;obtain⟨H,C,G,I⟩:=h;rw[hqu] at H G;simp only[List.length_cons] at H;have U:(C++q).Sublist came:=(List.Sublist.append (List.Sublist.refl C) (List.sublist_cons_self b q)).trans G;have d: ∀c:CnR,c.lost+c.malf+c.strange+c.told+c.acc=s.cnt.lost+s.cnt.malf+s.cnt.strange+s.cnt.told+s.cnt.acc+1->yE came {s with queue:=q,cnt:=c}:=λc J=>⟨by simp only;omega,C,U,I⟩
  split
  ·unfold RmS.tell;split
   ·exact(ko _ _).ct (d {s.cnt with told:=s.cnt.told+1} (by simp only;omega))
   ·exact d {s.cnt with malf:=s.cnt.malf+1} (by simp only;omega)
  ·rename_i J;unfold RmS.media;split
   ·rename_i M;cases hf:qh s.tab.o (jl b).1.sc with
    | none=>exact d {s.cnt with strange:=s.cnt.strange+1} (by simp only;omega)
    | some o=>
     simp only;unfold RmS.accept;obtain⟨t,Y⟩:=Option.isSome_iff_exists.1 (N _ _ hf);simp only[Y];refine⟨by simp only;omega,C++[b], ?_, ?_⟩
     ·rw[List.append_assoc];exact G
     ·refine zb.snoc I ⟨?_,by simpa using J, ?_⟩
      ·exact Prod.ext rfl M
      ·exact BH t (Xc (O b (by rw[hqu];exact List.mem_cons_self)) M).2.2.2
   ·exact d {s.cnt with malf:=s.cnt.malf+1} (by simp only;omega)
theorem yE.stepW {came:List (List Int)} (h:yE came s) (J: ∀b∈s.queue,Byt b) (I: ∀x o,qh s.tab.o x=some o->(qh s.strs o).isSome=true) (w:Og) (acc:Bool):yE came (s.stepW w acc):=by
 unfold RmS.stepW;split
 ·have d:yE came (s.drain w):=by
   unfold RmS.drain;split
   ·obtain⟨M,C,G,H⟩:=h;exact⟨by simp only[List.length_nil];omega,C,by rw[List.append_nil];exact(List.sublist_append_left C s.queue).trans G,H⟩
   ·split
    ·exact(za vn _ s).ct h
    ·exact(vt s w).ct h
  unfold RmS.endW;split
  ·exact d.same rfl rfl rfl
  ·exact d
 ·split
  ·exact h.read J I
  ·split
   ·exact(kr s).ct h
   ·split
    ·exact(vu s _).ct h
    ·split
     ·exact(yA s _).ct h
     ·unfold RmS.write;cases qh s.lanes w.2 with
      | none=>exact h
      | some l=>exact h.same rfl rfl rfl
theorem yE.arrive {came:List (List Int)} (h:yE came s) (N:1<=s.cfg.room) (b:List Int):(s.closed=true->s.arrive b=(s,7))/\(s.closed=false->(s.arrive b).2=0/\yE (came++[b]) (s.arrive b).1):=by
 unfold RmS.arrive;refine⟨λd=>by rw[if_pos d],λd=> ?_⟩;rw[if_neg (by rw[d];decide)];obtain⟨I,C,G,H⟩:=h;split
 ·refine⟨rfl,⟨by simp only[List.length_append,List.length_cons,List.length_nil];omega,C, ?_,H⟩⟩;simp only;rw[<-List.append_assoc];exact List.Sublist.append G (List.Sublist.refl [b])
 ·rename_i J;have M:s.queue.tail.length+1=s.queue.length:=by
   rw[List.length_tail];omega
  refine⟨rfl,⟨by simp only[List.length_append,List.length_cons,List.length_nil];omega,C, ?_,H⟩⟩;simp only;rw[<-List.append_assoc];refine List.Sublist.append (List.Sublist.trans ?_ G) (List.Sublist.refl [b]);exact List.Sublist.append (List.Sublist.refl C) (List.tail_sublist _)
def yl (came:List (List Int)) (at_:Nat) (P:List AcS):Prop:= ∃C,C.Sublist (came.drop at_)/\zb CZ C P
theorem yl.start {came:List (List Int)} (h:yE came s):yl came 0 s.pks:=by
 obtain⟨H,C,d,G⟩:=h;exact⟨C,by rw[List.drop_zero];exact(List.sublist_append_left C s.queue).trans d,G⟩
theorem yl.some {came:List (List Int)} {d:Nat} {a:AcS} {P:List AcS} (h:yl came d (a::P)):d<came.length:=by
 obtain⟨C,G,H⟩:=h;obtain⟨c,I,rfl,_,_⟩:=H.uncons;have:=G.length_le;simp only[List.length_cons,List.length_drop] at this;omega
theorem yl.skip {came:List (List Int)} {d:Nat} {a:AcS} {P:List AcS} (h:yl came d (a::P)) (M:d<came.length) (N: ¬CZ came[d] a):yl came (d+1) (a::P):=by
 obtain⟨C,G,H⟩:=h;obtain⟨c,I,rfl,J,O⟩:=id H.uncons;rw[List.drop_eq_getElem_cons M] at G;refine⟨c::I, ?_,H⟩;cases G with
 | cons _ h=>exact h
 | cons_cons _ h=>exact absurd J N
theorem yl.take {came:List (List Int)} {d:Nat} {a:AcS} {P:List AcS} (h:yl came d (a::P)) (M:d<came.length):yl came (d+1) P:=by
 obtain⟨C,H,I⟩:=h;obtain⟨c,G,rfl,N,J⟩:=id I.uncons;rw[List.drop_eq_getElem_cons M] at H;refine⟨G, ?_,J⟩;cases H with
 | cons _ h=>exact(List.sublist_cons_self c G).trans h
 | cons_cons _ h=>exact h
end
structure A22 where
 act:Int
 sub:Int
 pub:Int
 layer:Int
 b:List Int
 w:Og
 acc:Bool
 own:Int
 stamp:Int
 seq:Int
 s0:Int
 s1:Int
 s2:Int
def doR (s:RmS) (a:A22):RmS×Int×Bool:=
 if a.act=0 then ((s.arrive a.b).1,(s.arrive a.b).2,false) else if a.act=1 then ((s.pick a.w a.acc).1,0,(s.pick a.w a.acc).2) else if a.act=2 then (s.tick.1,s.tick.2,false)
 else if a.act=3 then ((s.publish a.pub a.s0 a.s1 a.s2).1,(s.publish a.pub a.s0 a.s1 a.s2).2,false) else if a.act=4 then ((s.join a.sub a.own a.seq a.stamp).1,(s.join a.sub a.own a.seq a.stamp).2,false)
 else if a.act=5 then ((s.subscribe a.sub a.pub a.layer).1,(s.subscribe a.sub a.pub a.layer).2,false) else if a.act=6 then ((s.want a.sub a.layer).1,(s.want a.sub a.layer).2,false)
 else if a.act=7 then ((s.leave a.sub).1,(s.leave a.sub).2,false) else if a.act=8 then (s.shut.1,s.shut.2,false) else (s,0,false)
section
variable {s s':RmS} {n:Nat}
theorem KZ (h:qV n s) (I:(s.tab.u.map Prod.fst).Nodup) (a:A22) (d:Byt a.b) (G:a.b.length<=400) (H: ∀v∈[a.s0,a.s1,a.s2],0<=v/\v<=4294967295):qV (n+1) (doR s a).1:=by
 unfold doR;split
 ·exact h.arrive d G
 ·split
  ·exact h.pick _ _
  ·split
   ·exact h.tick
   ·split
    ·exact h.publish _ _ _ _ H
    ·split
     ·exact h.join _ _ _ _
     ·split
      ·exact h.subscribe _ _ _
      ·split
       ·exact h.want _ _
       ·split
        ·exact h.leave I _
        ·split
         ·exact h.shut
         ·exact h.up
theorem Vn (s:RmS) (o:Og):(s.tick1 o).ret=s.ret/\(s.tick1 o).closed=s.closed:=by
 unfold RmS.tick1;cases qh s.strs o with
 | none=>exact⟨rfl,rfl⟩
 | some t=>simp only;split<;>exact⟨rfl,rfl⟩
theorem gJ: ∀(L:List Og) (s:RmS),(L.foldl RmS.tick1 s).ret=s.ret/\(L.foldl RmS.tick1 s).closed=s.closed
 | [],_=>⟨rfl,rfl⟩
 | o::L,s=>by
  rw[List.foldl_cons];exact⟨(gJ L _).1.trans (Vn s o).1,(gJ L _).2.trans (Vn s o).2⟩
theorem YR (w:Og) (acc:Bool):(s.stepW w acc).closed=s.closed:=by
 unfold RmS.stepW;split
 ·unfold RmS.endW;split
  ·exact(uF s w).2.2
  ·exact(uF s w).2.2
 ·split
  ·unfold RmS.read;cases s.queue with
   | nil=>rfl
   | cons b q=>
    simp only;split
    ·unfold RmS.tell;split
     ·exact(ko _ _).closed
     ·rfl
    ·unfold RmS.media;split
     ·cases qh s.tab.o (jl b).1.sc with
      | none=>rfl
      | some o=>
       unfold RmS.accept;simp only;cases qh s.strs o<;>rfl
     ·rfl
  ·split
   ·exact(kr s).closed
   ·split
    ·exact(vu s _).closed
    ·split
     ·exact(yA s _).closed
     ·unfold RmS.write;cases qh s.lanes w.2<;>rfl
def Yl (s:RmS) (r:RmS×Int):Prop:=(s.closed=true->r=(s,7))/\(s.closed=false->r.1.ret=s.ret/\r.1.closed=false)
theorem kI {r:RmS×Int} (h:s.closed=false->r.1.ret=s.ret/\r.1.closed=s.closed):Yl s (if s.closed then (s,7) else r):=by
 refine⟨λc=>by rw[if_pos c],λc=> ?_⟩;rw[if_neg (by rw[c];decide)];exact⟨(h c).1,(h c).2.trans c⟩
theorem Mh (a:A22):Yl s (s.arrive a.b)/\Yl s s.tick/\Yl s (s.publish a.pub a.s0 a.s1 a.s2)/\Yl s (s.join a.sub a.own a.seq a.stamp)/\Yl s (s.subscribe a.sub a.pub a.layer)/\Yl s (s.want a.sub a.layer)/\Yl s (s.leave a.sub):=by
 refine⟨kI λ_=> ?_,kI λ_=>⟨(gJ _ _).1,(gJ _ _).2⟩,kI λ_=> ?_,kI λ_=> ?_,kI λ_=> ?_,kI λ_=> ?_,kI λ_=> ?_⟩
 all_goals (repeat' split)
 all_goals exact⟨rfl,rfl⟩
theorem QG (a:A22) (d: ¬a.act=1):(s.closed=true->(doR s a).1=s)/\(s.closed=false->(doR s a).1.ret=s.ret)/\(doR s a).1.closed=(s.closed||decide (a.act=8))/\(s.closed=true->0<=a.act/\a.act<=7->(doR s a).2.1=7):=by
 obtain⟨I,J,M,N,O,U,Y⟩:=Mh (s:=s) a;have key: ∀r:RmS×Int,Yl s r-> ¬a.act=8->(s.closed=true->r.1=s)/\(s.closed=false->r.1.ret=s.ret)/\r.1.closed=(s.closed||decide (a.act=8))/\(s.closed=true->0<=a.act/\a.act<=7->r.2=7):=λr g aa=>by
  obtain⟨G,H⟩:=g;rw[decide_eq_false aa,Bool.or_false];refine⟨λc=>by rw[G c],λc=>(H c).1, ?_,λc _=>by rw[G c]⟩;cases c:s.closed with
  | true=>rw[G c];exact c
  | false=>exact(H c).2
 by_cases e0:a.act=0
 ·unfold doR;rw[if_pos e0];exact key _ I τ
 by_cases e2:a.act=2
 ·unfold doR;rw[if_neg e0,if_neg d,if_pos e2];exact key _ J τ
 by_cases e3:a.act=3
 ·unfold doR;rw[if_neg e0,if_neg d,if_neg e2,if_pos e3];exact key _ M τ
 by_cases e4:a.act=4
 ·unfold doR;rw[if_neg e0,if_neg d,if_neg e2,if_neg e3,if_pos e4];exact key _ N τ
 by_cases e5:a.act=5
 ·unfold doR;rw[if_neg e0,if_neg d,if_neg e2,if_neg e3,if_neg e4,if_pos e5];exact key _ O τ
 by_cases e6:a.act=6
 ·unfold doR;rw[if_neg e0,if_neg d,if_neg e2,if_neg e3,if_neg e4,if_neg e5,if_pos e6];exact key _ U τ
 by_cases e7:a.act=7
 ·unfold doR;rw[if_neg e0,if_neg d,if_neg e2,if_neg e3,if_neg e4,if_neg e5,if_neg e6,if_pos e7];exact key _ Y τ
 by_cases e8:a.act=8
 ·unfold doR;rw[if_neg e0,if_neg d,if_neg e2,if_neg e3,if_neg e4,if_neg e5,if_neg e6,if_neg e7,if_pos e8];simp only;unfold RmS.shut;cases c:s.closed with
  | true=>exact⟨λ_=>rfl,λe=>(by cases e),c,λ_ h=>by omega⟩
  | false=>exact⟨λe=>(by cases e),λ_=>rfl,by simp[e8],λe=>(by cases e)⟩
 ·unfold doR;rw[if_neg e0,if_neg d,if_neg e2,if_neg e3,if_neg e4,if_neg e5,if_neg e6,if_neg e7,if_neg e8];exact⟨λ_=>rfl,λ_=>rfl,by rw[decide_eq_false e8,Bool.or_false],λ_ h=>by omega⟩
theorem Xn (a:A22) (d:a.act=1):doR s a=((s.pick a.w a.acc).1,0,(s.pick a.w a.acc).2):=by
 unfold doR;rw[if_neg τ,if_pos d]
theorem UY (a:A22):(doR s a).1.closed=(s.closed||decide (a.act=8)):=by
 by_cases ha:a.act=1
 ·rw[Xn a ha,decide_eq_false τ,Bool.or_false];unfold RmS.pick;split
  ·exact YR _ _
  ·rfl
 ·exact(QG a ha).2.2.1
theorem IP (h:wN s) (I:OwO s) (a:A22):wN (doR s a).1:=by
 by_cases ha:a.act=1
 ·rw[Xn a ha];unfold RmS.pick;split
  ·rename_i H;simp only;cases hc:s.closed with
   | true=>
    unfold RmS.stepW;rw[if_pos hc];exact h.endW I hc H
   | false=>exact wN.nil (Us hc (h.open_ hc) _ _)
  ·exact h
 ·obtain⟨d,G,_⟩:=QG (s:=s) a ha;cases hc:s.closed with
  | true=>rw[d hc];exact h
  | false=>exact wN.nil ((G hc).trans (h.open_ hc))
theorem IQ {came:List (List Int)} (h:yE came s) (d:qV n s) (a:A22):yE (if a.act=0/\(doR s a).2.1=0 then came++[a.b] else came) (doR s a).1:=by
 unfold doR;split
 ·rename_i e;obtain⟨G,H⟩:=h.arrive (kF d.num.cfg).1.1 a.b;cases hc:s.closed with
  | true=>rw[G hc,if_neg η];exact h
  | false=>
   obtain⟨M,N⟩:=H hc;rw[if_pos ⟨e,M⟩];exact N
 ·rename_i e;have key: ∀r:RmS×Int×Bool,yE came r.1->yE (if a.act=0/\r.2.1=0 then came++[a.b] else came) r.1:=λr J=>by
   rw[if_neg (λc=>e c.1)];exact J
  apply key;split
  ·unfold RmS.pick;split
   ·exact h.stepW (λb I=>(d.num.queue b I).1) d.tb.org _ _
   ·exact h
  ·split
   ·unfold RmS.tick;split
    ·exact h
    ·have k:=ur s.origins {s with clock:=s.clock+1};exact h.same k.cnt k.queue k.pks
   ·split
    ·unfold RmS.publish
     repeat' split
     all_goals exact h.same rfl rfl rfl
    ·split
     ·unfold RmS.join
      repeat' split
      all_goals exact h.same rfl rfl rfl
     ·split
      ·unfold RmS.subscribe
       repeat' split
       all_goals exact h.same rfl rfl rfl
      ·split
       ·unfold RmS.want
        repeat' split
        all_goals exact h.same rfl rfl rfl
       ·split
        ·unfold RmS.leave
         repeat' split
         all_goals exact h.same rfl rfl rfl
        ·split
         ·unfold RmS.shut;split
          all_goals exact h.same rfl rfl rfl
         ·exact h
end
end Go.Proofs.YtdgippmmaponfaaGreat
