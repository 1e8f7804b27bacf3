/- Contracts of the functions that the law reaches, and plain laws; no conditions but those written at each. -/
import Derived.Test.YtlmllmonabafjaaGreatDoorMg24
namespace Go.Proofs.YtlmllmonabafjaaGreatDoor
open Go.Value renaming bool->μ,slice->δ,pointer->π,agg->θ
open Go.IntKind renaming i64->ι,u8->υ,u16->φ,u32->ω,i32->χ,u64->ψ
open _root_.Go.Proofs.Tryz
set_option linter.unusedSimpArgs false
set_option maxHeartbeats 8000000
set_option linter.unusedVariables false
open Go.RowKit
set_option maxRecDepth 100000
theorem zw.wide {I G:Nat->Prop} {w:World} {L:Nat} {l:LnS} (h:zw I w L l) (H: ∀b,I b->G b) (N: ∀b,G b->b<w.heap.size):zw G w L l:=by
 obtain⟨k,vo,e,x⟩:=h;have J: ∀b,lnE G k vo b->lnE I k vo b:=λb d=>d.elim (λq=>Or.inl λn=>q (H b n)) Or.inr
 have a:qg (λ_=>False) w w:=qg.refl _ w
 exact⟨k,vo,e,⟨N,λb d=>H b (x.muts b d),x.dist,x.blk,x.r1.step a (λq=>q) (λq=>q) (λb q=>q.elim) (λb d=>Or.inl (J b d)),x.r2.step a (λq=>q) (λq=>q) (λb q=>q.elim) (λb d=>Or.inl (J b d)),x.r3.step a (λq=>q) (λq=>q) (λb q=>q.elim) (λb d=>Or.inl (J b d)),
  ⟨by
   obtain⟨⟨xs,o,r⟩,_⟩:=x.o
   exact⟨xs,o,λi hi=>(r i hi).other λb d=>Or.inl (d.elim (λq=>Or.inl λn=>q (H b n)) Or.inr)⟩,λb d q=>x.o.apart b d (λn=>q (H b n))⟩,x.ok⟩⟩
section
variable {T:Nat->Tg} {w0 w w1 w':World} {k:RmK} {vp vr:Value} {s:RmS} {F:List Nat}
theorem RmX.laneNew (h:RmX T w0 w k vp vr s F) {x:Int} {l:LnS} {p:Nat} (m:qa w w1) (U:zw (λb=>w.heap.size<=b/\b<w1.heap.size) w1 p l)
  (ae:jk w' k.ML (Value.int .i64) gj (qx k.LA x p)) (a:qg (λb=>b=k.ML) w1 w'):qI w0 w' {k with LA:=qx k.LA x p} {s with lanes:=qx s.lanes x l} F/\qw F w w':=by
 obtain⟨N,Y⟩:=h.all .lns;have I:=h.fresh;have ag:=Y.lt;have J:qg (λb=>T b= .lane x∨T b= .lns) w w':=(qg.of_more m).trans (a.mono λb d=>Or.inr (by rw[d];exact N));have aa:w1.heap.size<=w'.heap.size:=a.size;obtain⟨y,z⟩:=h.own2 (t1:= .lane x) (t2:= .lns) (k':={k with LA:=qx k.LA x p}) (vp':=vp) (vr':=vr) (s':={s with lanes:=qx s.lanes x l}) ⟨η,η⟩ ⟨η,η⟩ J
  ⟨λaj ai G H=>by
   simp only at G H;rw[xD] at G H;injection G with G
   injection H with H
   subst G H;refine(U.away a (λb d ad=>by rw[d] at ad;omega)).wide (λb d=>(jd I η b).2 (Or.inr ⟨rfl,d.1,Nat.lt_of_lt_of_le d.2 aa⟩)) (λb d=> ?_);rcases(jd I η b).1 d with q | q
   ·rcases Nat.lt_or_ge b w.heap.size with c | c
    ·exact Nat.lt_of_lt_of_le c J.size
    ·rw[I b c] at q;cases q
   ·exact q.2.2,by simp only[xD];rfl⟩
  ⟨(jF I η η _).2 N,ae⟩
  (λu ab ac ah y=>by
   cases u<;>first | exact y | exact absurd rfl ac | skip
   rename_i af;have O:af≠x:=λe=>ab (by rw[e])
   unfold RmK.Holds at y ⊢;simp only;rw[vF _ _ O,vF _ _ O]
   exact y)
 exact⟨⟨_,_,_,y⟩,z⟩
theorem RmX.strNew (h:RmX T w0 w k vp vr s F) {o:Og} {t:zu} {p d:Nat} {v:Value} (m:qa w w1) (ae:w.heap.size<=p/\p<w1.heap.size) (ac:w.heap.size<=d/\d<w1.heap.size) (O:p≠d)
  (blk:w1.heap[p]? =some (.cells (gK d t) 176 (0,0))) (buf:xZ w1 d v t.buf) (aj:JOK t.buf) (ab:v.ownBlock=none)
  (ai:jk w' k.MS kO gj (qx k.SA o p)) (a:qg (λb=>b=k.MS) w1 w'):qI w0 w' {k with SA:=qx k.SA o p} {s with strs:=qx s.strs o t} F/\qw F w w':=by
 obtain⟨aa,ad⟩:=h.all .sts;have N:=h.fresh;have al:=ad.lt;have Y:qg (λb=>T b= .str o∨T b= .sts) w w':=(qg.of_more m).trans (a.mono λb G=>Or.inr (by rw[G];exact aa));have af:w1.heap.size<=w'.heap.size:=a.size;have U: ∀b,w.heap.size<=b/\b<w1.heap.size->jZ T (.str o) w w' b= .str o:=λb G=>(jd N η b).2 (Or.inr ⟨rfl,G.1,Nat.lt_of_lt_of_le G.2 af⟩)
 obtain⟨y,z⟩:=h.own2 (t1:= .str o) (t2:= .sts) (k':={k with SA:=qx k.SA o p}) (vp':=vp) (vr':=vr) (s':={s with strs:=qx s.strs o t}) ⟨η,η⟩ ⟨η,η⟩ Y
  ⟨λan am I J=>by
   simp only at I J;rw[xD] at I J;injection I with I
   injection J with J
   subst I J;refine⟨d,v,a.blk blk τ,⟨a.blk buf.blk τ,buf.row.away a (λg H=>by rw[ab] at H;cases H)⟩,aj,λb G=> ?_,U _ ae,U _ ac,O,λg H=>by rw[ab] at H;cases H⟩;rcases(jd N η b).1 G with q | q
   ·rcases Nat.lt_or_ge b w.heap.size with c | c
    ·exact Nat.lt_of_lt_of_le c Y.size
    ·rw[N b c] at q;cases q
   ·exact q.2.2,by simp only[xD];rfl⟩
  ⟨(jF N η η _).2 aa,ai⟩
  (λu ag ah U y=>by
   cases u<;>first | exact y | exact absurd rfl ah | skip
   rename_i ak;have O:ak≠o:=λe=>ag (by rw[e])
   unfold RmK.Holds at y ⊢;simp only;rw[vF _ _ O,vF _ _ O]
   exact y)
 exact⟨⟨_,_,_,y⟩,z⟩
theorem Pz {t:TS} {x d:Int} (h: ¬(yI t x d).2=0):(yI t x d).1=t:=by
 unfold yI at h ⊢;split
 ·rename_i G;rw[if_pos G] at h;split
  ·rfl
  ·rename_i H;rw[if_neg H] at h;exact absurd rfl h
 ·rfl
theorem Hr (aF:qI w0 w k s F) (an:xY s.cfg=true) (x d sq st:Int) (aq:U16 sq) (ap:U32 d):
  Calls prog 35 #[γ k.R,ι x,ω d,φ sq,ω st] w λe w'=> ∃k',k'.R=k.R/\e= .returned (ι (s.join x d sq st).2)/\qI w0 w' k' (s.join x d sq st).1 F/\qw F w w':=by
 obtain⟨T,vp,aL,h⟩:=aF;have ab:=κ h;have N:=κ (kF an);have aD:=β7 h.blk;have aJ:=β11 h.blk;obtain⟨aE,ah⟩:=ν (s.closed);rw[ah] at aD;have ad:=κ ah;clear ah h an;cases aE with
 | true=>
  have O:Hid (s.join x d sq st=(s,7)):=κ (by unfold RmS.join;rw[if_pos ad.o]);rw[O.o]
  go_enter func35,ntmps35
  go_wp2;go_ret;exact⟨k,rfl,rfl,ab.o.at,qw.refl _ _⟩
 | false=>
  have aa:=κ (Ld ab.o.tab x d);obtain⟨af,H⟩:=ν ((yI s.tab x d).2);obtain⟨aG,ac⟩:=ν ((yI s.tab x d).1);by_cases e0:af=0
  ·subst e0;have O:Hid (s.join x d sq st=({s with tab:=aG,lanes:=qx s.lanes x (Vd s.cfg.room.toNat s.cfg.most d sq st)},0)):=κ (by unfold RmS.join;rw[if_neg (by rw[ad.o];decide),if_pos H,ac]);rw[H,ac] at aa;rw[O.o];clear H ac;have aA:=κ (λw'=>Iu s.cfg.room s.cfg.most d sq st s.cfg.room.toNat (by have:=N.o.1;omega) (by have:=N.o.1;omega) (by have:=N.o.1;omega) N.o.2.2.2.1 N.o.2.2.2.2 aq ap w');clear aq ap
   go_enter func35,ntmps35
   go_upto_region 6 with (go_at_call 87;(go_call aa.o as e w1 ⟨rfl,Y,U⟩;have J:=κ (KK ab.o Y U);clear Y U))
   obtain⟨aH,aK,aM,av⟩:=J.o.1;have G:=κ av;clear av;have aj: ¬k.R=k.ML:=λe=>by have q:=(G.o.all .room).1;rw[e,(G.o.all .lns).1] at q;cases q
   have ay: ∀y:qz (λb=>b=k.ML) w1,y.w'.cell? ⟨k.R,12,none⟩=some (.map (some k.ML)):=λy=>qb (y.h.blk G.o.blk aj) 12 rfl
   have ax: ∀y:qz (λb=>b=k.ML) w1,y.w'.cell? ⟨k.R,1,none⟩=some (ι s.cfg.room):=λy=>qb (y.h.blk G.o.blk aj) 1 rfl
   have az: ∀y:qz (λb=>b=k.ML) w1,y.w'.cell? ⟨k.R,6,none⟩=some (ι s.cfg.most):=λy=>qb (y.h.blk G.o.blk aj) 6 rfl
   refine QN (λb=>b=k.ML) w1 24 24 [19,23] ?_
   refine ND ?_
   (refine Ql ?_;intro K I)
   go_call aA.o _ as e w5 ⟨L,rfl,au,ai⟩;have ae:Hid (qa w1 w5):=κ ((qa.drewN w1 1).trans ai);have am:=κ (G.o.on (qa.drewN w1 1));have al:=κ ai;have aB:=κ au;clear ai au;refine⟨_,rfl,qi (qg.of_more ae.o),I _ _ ?_⟩;clear I K
   iterate 3 (refine qE rfl rfl (qi (qg.of_more ae.o)) ?_;intro K I;go_big_quiet_op;go_big_quiet_on)
   clear ay ax az;obtain⟨w9,ar,ao,ag,_⟩:=(am.o.lnm.more al.o).update kE underlying90 x L;have ak:=κ (am.o.laneNew al.o aB.o ao ag);have aC:=κ (G.o.at.stay (qa.drewN w1 1));unfold gj at ar;have aw:Hid (qg (λb=>b=k.ML) w1 w9):=κ ((qg.of_more ae.o).trans ag)
   (refine Ql ?_;intro K I)
   refine⟨qi aw.o,I _ _ ?_⟩;clear I K ao ag ar;refine qA ?_;go_wp2;go_ret;exact⟨{k with LA:=qx k.LA x L},rfl,rfl,ak.o.1,J.o.2.trans (aC.o.trans ak.o.2)⟩
  ·have aI:(af != 0)=true:=by simp[e0]
   have O:Hid (s.join x d sq st=(s,af)):=κ (by unfold RmS.join;rw[if_neg (by rw[ad.o];decide),H,if_neg e0]);rw[Pz (by rw[H];exact e0),H] at aa;rw[O.o];clear H ac e0
   go_enter func35,ntmps35
   go_wp2_with (go_at_call 87;(go_call aa.o as e w1 ⟨rfl,Y,U⟩;have J:=κ (KK ab.o Y U);clear Y U))
   go_ret;exact⟨k,rfl,rfl,J.o.1,J.o.2⟩
end
def Hu (c:CfR) (p:Int) (m:List (Og×zu)):Nat->List (Og×zu)
 | 0=>m
 | i+1=>qx (Hu c p m i) (p,(i:Int)) (uc c)
theorem Bn {t:TS} {p s0 s1 s2:Int} (h: ¬(vA t p s0 s1 s2).2=0):(vA t p s0 s1 s2).1=t:=by
 unfold vA at h ⊢;split
 ·rename_i d;rw[if_pos d] at h;split
  ·rfl
  ·rename_i G;rw[if_neg G] at h;split
   ·rfl
   ·rename_i H;rw[if_neg H] at h;split
    ·rfl
    ·rename_i I;rw[if_neg I] at h;exact absurd rfl h
 ·rfl
section
variable {T:Nat->Tg} {w0 w w1 w':World} {k:RmK} {vp vr:Value} {s:RmS} {F:List Nat}
theorem Mu {t:TS} (h:RmX T w0 w k vp vr s F) (b:jq w' k.tb k.ta k.tc k.td t) (a:qg (λx=>x=k.ta∨x=k.tc) w w'):qI w0 w' k {s with tab:=t} F/\qw F w w':=
 h.table b (a.mono λ_ e=>e.elim Or.inl λq=>Or.inr (Or.inl q))
theorem V0 (bh:qI w0 w k s F) (aK:xY s.cfg=true) (p s0 s1 s2:Int):
  Calls prog 45 #[γ k.R,ι p,θ #[ω s0,ω s1,ω s2]] w λe w'=> ∃k',k'.R=k.R/\e= .returned (ι (s.publish p s0 s1 s2).2)/\qI w0 w' k' (s.publish p s0 s1 s2).1 F/\qw F w w':=by
 obtain⟨T,vp,bo,h⟩:=bh;obtain⟨W1,J⟩:=ν (w.alloc (.cells #[ω s0,ω s1,ω s2] 40));have aD:Hid (qa w W1):=κ (by rw[<-J];exact qa.alloc _ _);have aU:Hid (W1.heap[w.heap.size]? =some (.cells #[ω s0,ω s1,ω s2] 40 (0,0))):=κ (by rw[<-J];exact qj w _);have d:=κ (h.on aD.o);have aF:=κ (h.at.stay aD.o);have az:=κ (kF aK);have bf:=β7 d.o.blk;obtain⟨bg,am⟩:=ν (s.closed);rw[am] at bf;have ad:=κ am;clear am aK;cases bg with
 | true=>
  have G:Hid (s.publish p s0 s1 s2=(s,7)):=κ (by unfold RmS.publish;rw[if_pos ad.o]);rw[G.o];clear h
  go_enter func45,ntmps45
  go_upto_region 1 with fail
  (try rw[J])
  clear J;go_wp2;go_ret;exact⟨k,rfl,rfl,d.o.at,aF.o⟩
 | false=>
  have af:=κ (Dw (d.o.tab.more (qa.drewN W1 1)) p s0 s1 s2);unfold kJ at af;obtain⟨aj,an⟩:=ν ((vA s.tab p s0 s1 s2).2);obtain⟨ar,ap⟩:=ν ((vA s.tab p s0 s1 s2).1);rw[an,ap] at af;have aS: ¬(k.R=k.ta∨k.R=k.tc):=by
   obtain⟨_,O,U,_⟩:=d.o.all .table;rintro(e | e)
   ·rw[<-e,(d.o.all .room).1] at O;cases O
   ·rw[<-e,(d.o.all .room).1] at U;cases U
  have aR: ¬(w.heap.size=k.ta∨w.heap.size=k.tc):=by
   obtain⟨_,O,U,_⟩:=h.all .table;have aT:=h.fresh w.heap.size (Nat.le_refl _);rintro(e | e)
   ·rw[<-e,aT] at O;cases O
   ·rw[<-e,aT] at U;cases U
  have aX:=λ(x:qz (λb=>b=k.ta∨b=k.tc) W1)=>β11 (x.h.blk d.o.blk aS)
  have aa:=λ(x:qz (λb=>b=k.ta∨b=k.tc) W1)=>x.h.blk aU.o aR
  have ba:=λx=>β0 (aa x);have bb:=λx=>β1 (aa x);have bc:=λx=>β2 (aa x);clear aa
  clear h aS aR;have ae:=κ an;have aB:=κ ap;clear an ap
  go_enter func45,ntmps45
  go_upto_region 1 with fail
  (try rw[J])
  clear J
  go_upto_region 3 with fail
  refine QN (λb=>b=k.ta∨b=k.tc) W1 8 8 [6] ?_
  refine Qs6 ?_
  (refine Ql ?_;intro K H)
  (with_reducible refine af.o.mono ?_)
  rintro e w2 ⟨rfl,aH,ai⟩;have av:Hid (qg (λb=>b=k.ta∨b=k.tc) W1 w2):=κ (((qg.refl _ W1).drewN 1).trans ai);have ac:=κ (Mu (d.o.on (qa.drewN W1 1)) aH ai);have aG:=κ (aF.o.trans ((d.o.at.stay (qa.drewN W1 1)).trans ac.o.2));clear aH ai;refine⟨_,rfl,qi av.o,H _ _ ?_⟩;clear H K aX ba bb bc
  iterate 1 (refine qE rfl rfl (qi av.o) ?_;intro K H;go_big_quiet_op;go_big_quiet_on)
  refine qA ?_;by_cases e0:aj=0
  ·subst e0;have G:Hid (s.publish p s0 s1 s2=({s with tab:=ar,strs:=Hu s.cfg p s.strs 3},0)):=κ (by unfold RmS.publish;rw[if_neg (by rw[ad.o];decide),if_pos ae.o,aB.o];rfl);go_wp2
   go_loopw [25] (λaq wr=> ∃i:Nat,i<=3/\aq= ι i/\(∃I:RmK,I.R=k.R/\qI w0 wr I {s with tab:=ar,strs:=Hu s.cfg p s.strs i} F)/\qw F w2 wr) (λaq _=>3-(intOf aq).toNat)
   case atStart=>exact⟨0,τ,rfl,⟨k,rfl,ac.o.1⟩,qw.refl _ _⟩
   case round=>
    obtain⟨i,hi,rfl,⟨I,aL,aN⟩,aO⟩:=hrel;have aA:=κ aN;have aC:=κ aO;have Y:=κ aL;clear aN aO aL;by_cases hlt:i<3
    ·have bi:(i:Int)<3:=by omega
     obtain⟨bk,bn,bp,au⟩:=aA.o;have ah:=κ au;have ak:=au.blk;rw[Y.o] at ak;have ax:=κ ak;have aY: ∀y:qt wr,y.w'.cell? ⟨k.R,2,none⟩=some (ι s.cfg.hold):=λy=>qb (qc y.h ax.o) 2 rfl
     have aZ: ∀y:qt wr,y.w'.cell? ⟨k.R,3,none⟩=some (ι s.cfg.wait):=λy=>qb (qc y.h ax.o) 3 rfl
     have bd:=κ (YM s.cfg.hold s.cfg.wait (wr.drewN 1) az.o.2.1);clear au ak
     go_upto_region 9 with fail
     refine Qn wr 16 16 [10] ?_
     refine NC ?_
     (refine Ql ?_;intro K H)
     (with_reducible refine bd.o.mono ?_)
     rintro e w5 ⟨rfl,aI,aQ,aP⟩;have ab:Hid (qa wr w5):=κ ((qa.drewN wr 1).trans aQ);have aV:Hid (xZ w5 wr.heap.size (δ none 0 0) (CU s.cfg.hold s.cfg.wait)):=κ aI;have ag:Hid (wr.heap.size<w5.heap.size):=κ aP;clear aI aQ aP;refine⟨_,rfl,qk ab.o,H _ _ ?_⟩;clear H K aY aZ
     iterate 5 (refine qE rfl rfl (qk ab.o) ?_;intro K H;go_big_quiet_op;go_big_quiet_on)
     refine qA ?_;obtain⟨W6,N⟩:=ν (w5.alloc (.cells #[γ wr.heap.size,false,ι 0,false,false,ι 0,ι 0,false] 176));have aE:Hid (qa wr W6):=κ (by rw[<-N];exact ab.o.al _);have aw:Hid (W6.heap[w5.heap.size]? =some (.cells (gK wr.heap.size (uc s.cfg)) 176 (0,0))):=κ (by rw[<-N];exact qj w5 _);have aW:Hid (xZ W6 wr.heap.size (δ none 0 0) (uc s.cfg).buf):=κ (by rw[<-N];exact aV.o.on (qa.alloc _ _));obtain⟨w9,bj,aM,aJ,_⟩:=(ah.o.stm.more aE.o).update Yr underlying91 (p,(i:Int)) w5.heap.size;have ay:=κ (ah.o.strNew (t:=uc s.cfg) aE.o ⟨Nat.le_of_lt ag.o,qn aw.o⟩ ⟨Nat.le_refl _,Nat.lt_of_lt_of_le ag.o (by rw[<-N];exact(qa.alloc _ _).size)⟩ (λe=>by have:=ag.o;omega) aw.o aW.o (EJ az.o.2.1) rfl aM aJ);unfold gj kO at bj;have ao:=ah.o.blk;rw[Y.o] at ao;have bm:w5.cell? ⟨k.R,13,none⟩=some (.map (some I.MS)):=qb (qc ab.o ao) 13 rfl;clear aM aJ ao
     go_wp2_with ((try rw[N]);fail)
     go_roundw
     case rel=>exact⟨i+1,τ,by go_num,⟨{I with SA:=qx I.SA (p,(i:Int)) w5.heap.size},Y.o,ay.o.1⟩,aC.o.trans ay.o.2⟩
     case measure=>simp[intOf];omega
    ·obtain rfl:i=3:=by omega
     have bi: ¬((3:Nat):Int)<3:=by omega
     go_wp2;go_ret;exact⟨I,Y.o,by rw[G.o];rfl,by rw[G.o];exact aA.o,aG.o.trans aC.o⟩
  ·have bl:(aj != 0)=true:=by simp[e0]
   have G:Hid (s.publish p s0 s1 s2=(s,aj)):=κ (by unfold RmS.publish;rw[if_neg (by rw[ad.o];decide),ae.o,if_neg e0]);have be:Hid (ar=s.tab):=κ (by rw[<-aB.o];exact Bn (by rw[ae.o];exact e0));clear e0;go_wp2;go_ret;exact⟨k,rfl,by rw[G.o];rfl,by rw[G.o];have h:=ac.o.1;rw[be.o] at h;exact h,aG.o⟩
end
section
variable {w0 w w':World} {k:RmK} {s:RmS} {F:List Nat}
theorem RDo {n:Nat} (ao:qI w0 w k s F) (al:qV n s) (ap:n<=1000) (a:A22) (am:Option Addr) (ak:Nat) (aq:SlI .u8 w (δ am a.b.length ak) a.b) (U:Byt a.b) (ab:a.b.length<=400) (aa:U16 a.seq) (Y:U32 a.own):
  Calls prog 12 #[γ k.R,θ #[ι a.act,ι a.sub,ι a.pub,ι a.layer,δ am a.b.length ak,ι a.w.1,ι a.w.2,a.acc,ω a.own,ω a.stamp,φ a.seq,ω a.s0,ω a.s1,ω a.s2]] w λe w'=>
   ∃k',k'.R=k.R/\e= .returned (.tuple #[ι (doR s a).2.1,μ (doR s a).2.2])/\qI w0 w' k' (doR s a).1 F/\qw F w w':=by
 obtain⟨act,sub,pub,layer,b,⟨w1,w2⟩,acc,own,stamp,seq,s0,s1,s2⟩:=a;simp only at aq U ab aa Y ⊢;obtain⟨W1,G⟩:=ν (w.alloc (.cells #[ι act,ι sub,ι pub,ι layer,δ am b.length ak,ι w1,ι w2,acc,ω own,ω stamp,φ seq,ω s0,ω s1,ω s2] 42));have an:Hid (qa w W1):=κ (by rw[<-G];exact qa.alloc _ _);have O:Hid (W1.heap[w.heap.size]? =some (.cells #[ι act,ι sub,ι pub,ι layer,δ am b.length ak,ι w1,ι w2,acc,ω own,ω stamp,φ seq,ω s0,ω s1,ω s2] 42 (0,0))):=κ (by rw[<-G];exact qj w _);have ac:=κ (ao.on an.o);have ad:=κ (ao.stay an.o);have ah:=κ al;have ar:=κ (aq.keep an.o);have af:=al.num.lost;have ae:=al.num.book;have av:=β0 O.o;have c1:=β1 O.o;have c2:=β2 O.o;have c3:=β3 O.o;have c4:=β4 O.o;have c5:=β5 O.o;have aA:=β6 O.o;have aB:=β7 O.o;have aC:=β8 O.o;have aD:=β9 O.o;have aw:=β10 O.o;have ax:=β11 O.o;have ay:=β12 O.o;have az:=β13 O.o;have au:act=0∨act=1∨act=2∨act=3∨act=4∨act=5∨act=6∨act=7∨act=8∨ ¬(0<=act/\act<=8):=by omega
 clear ao al aq;rcases au with rfl | rfl | rfl | rfl | rfl | rfl | rfl | rfl | rfl | hno
 ·have J:=κ (Gf ac.o b _ ar.o U τ τ);have H:Hid (doR s ⟨0,sub,pub,layer,b,(w1,w2),acc,own,stamp,seq,s0,s1,s2⟩=((s.arrive b).1,(s.arrive b).2,false)):=κ rfl;rw[H.o];clear af ae U ab aa Y
  go_enter func12,ntmps12
  go_upto_region 1 with fail
  (try rw[G])
  clear G
  go_wp2_with (go_at_call 33;(go_call J.o as e ag ⟨rfl,d,t2⟩;have I:=κ d;have N:=κ t2;clear d t2))
  go_ret2
  exact⟨k,rfl,rfl,I.o,ad.o.trans N.o⟩
 ·have J:=κ (Hq ac.o ah.o τ w1 w2 acc);have H:Hid (doR s ⟨1,sub,pub,layer,b,(w1,w2),acc,own,stamp,seq,s0,s1,s2⟩=((s.pick (w1,w2) acc).1,0,(s.pick (w1,w2) acc).2)):=κ rfl;rw[H.o];clear af ae U ab aa Y
  go_enter func12,ntmps12
  go_upto_region 1 with fail
  (try rw[G])
  clear G
  go_wp2_with (go_at_call 31;(go_call J.o as e ag ⟨rfl,d,t2⟩;have I:=κ d;have N:=κ t2;clear d t2))
  go_ret2
  exact⟨k,rfl,rfl,I.o,ad.o.trans N.o⟩
 ·have J:=κ (Hn ac.o ah.o ap);have H:Hid (doR s ⟨2,sub,pub,layer,b,(w1,w2),acc,own,stamp,seq,s0,s1,s2⟩=(s.tick.1,s.tick.2,false)):=κ rfl;rw[H.o];clear af ae U ab aa Y
  go_enter func12,ntmps12
  go_upto_region 1 with fail
  (try rw[G])
  clear G
  go_wp2_with (go_at_call 34;(go_call J.o as e ag ⟨rfl,d,t2⟩;have I:=κ d;have N:=κ t2;clear d t2))
  go_ret2
  exact⟨k,rfl,rfl,I.o,ad.o.trans N.o⟩
 ·have J:=κ (V0 ac.o ah.o.num.cfg pub s0 s1 s2);have H:Hid (doR s ⟨3,sub,pub,layer,b,(w1,w2),acc,own,stamp,seq,s0,s1,s2⟩=((s.publish pub s0 s1 s2).1,(s.publish pub s0 s1 s2).2,false)):=κ rfl;rw[H.o];clear af ae U ab aa Y
  go_enter func12,ntmps12
  go_upto_region 1 with fail
  (try rw[G])
  clear G
  go_wp2_with (go_at_call 45;(go_call J.o as e ag ⟨aj,ai,rfl,d,t2⟩;have I:=κ d;have N:=κ t2;clear d t2))
  go_ret2
  exact⟨aj,ai,rfl,I.o,ad.o.trans N.o⟩
 ·have J:=κ (Hr ac.o ah.o.num.cfg sub own seq stamp aa Y);have H:Hid (doR s ⟨4,sub,pub,layer,b,(w1,w2),acc,own,stamp,seq,s0,s1,s2⟩=((s.join sub own seq stamp).1,(s.join sub own seq stamp).2,false)):=κ rfl;rw[H.o];clear af ae U ab aa Y
  go_enter func12,ntmps12
  go_upto_region 1 with fail
  (try rw[G])
  clear G
  go_wp2_with (go_at_call 35;(go_call J.o as e ag ⟨aj,ai,rfl,d,t2⟩;have I:=κ d;have N:=κ t2;clear d t2))
  go_ret2
  exact⟨aj,ai,rfl,I.o,ad.o.trans N.o⟩
 ·have J:=κ (XM ac.o (ah.o.subs ap) sub pub layer);have H:Hid (doR s ⟨5,sub,pub,layer,b,(w1,w2),acc,own,stamp,seq,s0,s1,s2⟩=((s.subscribe sub pub layer).1,(s.subscribe sub pub layer).2,false)):=κ rfl;rw[H.o];clear af ae U ab aa Y
  go_enter func12,ntmps12
  go_upto_region 1 with fail
  (try rw[G])
  clear G
  go_wp2_with (go_at_call 46;(go_call J.o as e ag ⟨rfl,d,t2⟩;have I:=κ d;have N:=κ t2;clear d t2))
  go_ret2
  exact⟨k,rfl,rfl,I.o,ad.o.trans N.o⟩
 ·have J:=κ (Ms ac.o (ah.o.subs ap) sub layer);have H:Hid (doR s ⟨6,sub,pub,layer,b,(w1,w2),acc,own,stamp,seq,s0,s1,s2⟩=((s.want sub layer).1,(s.want sub layer).2,false)):=κ rfl;rw[H.o];clear af ae U ab aa Y
  go_enter func12,ntmps12
  go_upto_region 1 with fail
  (try rw[G])
  clear G
  go_wp2_with (go_at_call 36;(go_call J.o as e ag ⟨rfl,d,t2⟩;have I:=κ d;have N:=κ t2;clear d t2))
  go_ret2
  exact⟨k,rfl,rfl,I.o,ad.o.trans N.o⟩
 ·have J:=κ (Lh ac.o τ sub);have H:Hid (doR s ⟨7,sub,pub,layer,b,(w1,w2),acc,own,stamp,seq,s0,s1,s2⟩=((s.leave sub).1,(s.leave sub).2,false)):=κ rfl;rw[H.o];clear af ae U ab aa Y
  go_enter func12,ntmps12
  go_upto_region 1 with fail
  (try rw[G])
  clear G
  go_wp2_with (go_at_call 47;(go_call J.o as e ag ⟨aj,ai,rfl,d,t2⟩;have I:=κ d;have N:=κ t2;clear d t2))
  go_ret2
  exact⟨aj,ai,rfl,I.o,ad.o.trans N.o⟩
 ·have J:=κ (Ho ac.o);have H:Hid (doR s ⟨8,sub,pub,layer,b,(w1,w2),acc,own,stamp,seq,s0,s1,s2⟩=(s.shut.1,s.shut.2,false)):=κ rfl;rw[H.o];clear af ae U ab aa Y
  go_enter func12,ntmps12
  go_upto_region 1 with fail
  (try rw[G])
  clear G
  go_wp2_with (go_at_call 28;(go_call J.o as e ag ⟨rfl,d,t2⟩;have I:=κ d;have N:=κ t2;clear d t2))
  go_ret2
  exact⟨k,rfl,rfl,I.o,ad.o.trans N.o⟩
 ·have H:Hid (doR s ⟨act,sub,pub,layer,b,(w1,w2),acc,own,stamp,seq,s0,s1,s2⟩=(s,0,false)):=κ (by
   unfold doR;simp only
   rw[if_neg τ,if_neg τ,if_neg τ,if_neg τ,if_neg τ,if_neg τ,if_neg τ,if_neg τ,if_neg τ])
  rw[H.o];clear af ae U ab aa Y;have aE:(act==0)=false:=by simp;omega
  have aF:(act==1)=false:=by simp;omega
  have aG:(act==2)=false:=by simp;omega
  have aH:(act==3)=false:=by simp;omega
  have aI:(act==4)=false:=by simp;omega
  have aJ:(act==5)=false:=by simp;omega
  have aK:(act==6)=false:=by simp;omega
  have aL:(act==7)=false:=by simp;omega
  have aM:(act==8)=false:=by simp;omega
  clear hno
  go_enter func12,ntmps12
  go_upto_region 1 with fail
  (try rw[G])
  clear G;go_wp2
  go_ret2
  exact⟨k,rfl,rfl,ac.o,ad.o⟩
end
def uh:qL A22:=λw cs a=> ∃vb,cs=[.int .i64 a.act,.int .i64 a.sub,.int .i64 a.pub,.int .i64 a.layer,vb,.int .i64 a.w.1,.int .i64 a.w.2,.bool a.acc,.int .u32 a.own,.int .u32 a.stamp,.int .u16 a.seq,.int .u32 a.s0,.int .u32 a.s1,.int .u32 a.s2]/\SlI .u8 w vb a.b/\(Byt a.b/\U32 a.own/\U16 a.seq/\ ∀v∈[a.s0,a.s1,a.s2],0<=v/\v<=4294967295)
theorem kj:QQ uh:=λ_ _ _ _ m ⟨vb,d,G,H⟩=>⟨vb,d,G.keep m,H⟩
def LE:qL (Int×Int×Unit):=zf 1 (yW .i64) (zf 1 (yW .i64) Gp)
theorem Sa:jC prog 37 LE:=
 jC.struct underlying37 ξ (jH.cons rfl ξ (jC.int underlying3) (jH.cons rfl ξ (jC.int underlying3) jH.nil))
def LG:qL (Int×Int×Int×Int×List Int×(Int×Int×Unit)×Bool×Int×Int×Int×List Int×Unit):=
 zf 1 (yW .i64) (zf 1 (yW .i64) (zf 1 (yW .i64) (zf 1 (yW .i64) (zf 1 (RSl 1 (yW .u8)) (zf 2 LE (zf 1 DS (zf 1 (yW .u32) (zf 1 (yW .u32) (zf 1 (yW .u16) (zf 3 (LK 3 1 (yW .u32)) Gp))))))))))
theorem Cv {w:World} {cs:List Value} {y:Int×Int×Int×Int×List Int×(Int×Int×Unit)×Bool×Int×Int×Int×List Int×Unit} (ak:cs.length=14) (h:LG w cs y): ∃z,uh w cs z:=by
 match cs,ak with
 | [k0,k1,k2,k3,k4,k5,k6,k7,k8,k9,k10,k11,k12,k13],_=>
  obtain⟨⟨O,_⟩,⟨U,_⟩,⟨aa,_⟩,⟨ab,_⟩,⟨ap,ac,ao⟩,⟨⟨ad,_⟩,⟨ae,_⟩,_⟩,af,⟨ag,aj⟩,⟨ah,_⟩,⟨Y,ai⟩,⟨_,I,J⟩,_⟩:=h;simp[DS] at O U aa ab ac ad ae af ag ah Y;have d:=J 0 (by rw[I];omega);have G:=J 1 (by rw[I];omega);have H:=J 2 (by rw[I];omega);obtain⟨d,al⟩:=d;obtain⟨G,am⟩:=G;obtain⟨H,p2⟩:=H;simp at d G H;obtain⟨an,aq⟩:=ao.ints;refine⟨⟨_,_,_,_,_,(_,_),_,_,_,_,_,_,_⟩,ap,by rw[O,U,aa,ab,ac,ad,ae,af,ag,ah,Y,d,G,H],an,Byt.of_wf aq,bounds_u32 aj,bounds_u16 ai,λv N=> ?_⟩;simp at N;rcases N with rfl | rfl | rfl
  ·exact bounds_u32 al
  ·exact bounds_u32 am
  ·exact bounds_u32 p2
theorem Xg:jC prog 42 uh:=λG H w base U J I cs x d=>by
 obtain⟨y,O⟩:=(jC.struct (R:=LG) underlying42 ξ (jH.cons rfl ξ (jC.int underlying3) (jH.cons rfl ξ (jC.int underlying3) (jH.cons rfl ξ (jC.int underlying3) (jH.cons rfl ξ (jC.int underlying3) (jH.cons rfl ξ (jC.sl underlying35 ξ ζ (jC.int underlying5)) (jH.cons rfl ξ Sa (jH.cons rfl ξ (jC.bool underlying4) (jH.cons rfl ξ (jC.int underlying38) (jH.cons rfl ξ (jC.int underlying38) (jH.cons rfl ξ (jC.int underlying39) (jH.cons rfl ξ (jC.arr underlying40 ξ ξ (jC.int underlying38)) jH.nil)))))))))))) G H w base U J I cs x d;refine Cv ?_ O;obtain⟨_,_,_,_,N,_⟩:=DataW.trod_struct underlying42 d;rw[N]
 kernel_rfl
def KL:qL CfR:=λ_ cs c=>cs=[.int .i64 c.room,.int .i64 c.hold,.int .i64 c.wait,.int .i64 c.space,.int .i64 c.retry,.int .i64 c.most]
def Hj:qL (Int×Int×Unit):=zf 1 (yW .i64) (zf 1 (yW .i64) Gp)
theorem Pi:jC prog 23 Hj:=
 jC.struct underlying23 ξ (jH.cons rfl ξ (jC.int underlying2) (jH.cons rfl ξ (jC.int underlying2) jH.nil))
theorem Xf:jC prog 25 KL:=λY aa w base ae ac ab cs x G=>by
 obtain⟨y,ad⟩:=(jC.struct (R:=zf 1 (yW .i64) (zf 1 (yW .i64) (zf 1 (yW .i64) (zf 2 Hj (zf 1 (yW .i64) Gp))))) underlying25 ξ (jH.cons rfl ξ (jC.int underlying3) (jH.cons rfl ξ (jC.int underlying3) (jH.cons rfl ξ (jC.int underlying2) (jH.cons rfl ξ Pi (jH.cons rfl ξ (jC.int underlying3) jH.nil)))))) Y aa w base ae ac ab cs x G;have d:cs.length=6:=by
  obtain⟨_,_,_,_,d,_⟩:=DataW.trod_struct underlying25 G;rw[d]
  kernel_rfl
 match cs,d with
 | [k0,k1,k2,k3,k4,k5],_=>
  obtain⟨⟨H,_⟩,⟨I,_⟩,⟨J,_⟩,⟨⟨N,_⟩,⟨O,_⟩,_⟩,⟨U,_⟩,_⟩:=ad;simp at H I J N O U;exact⟨⟨_,_,_,_,_,_⟩,by rw[H,I,J,N,O,U];rfl⟩
def jv:A22:=⟨0,0,0,0,[],(0,0),false,0,0,0,0,0,0⟩
theorem Yt {w:World} {v:Value} {l:List A22} (h:SlP 14 uh w v l): ∃G cap,v= δ G l.length cap/\(l.length:Int)<=9223372036854775807/\ ∀i,i<l.length-> ∃b I H d,G=some ⟨b,I,none⟩/\b<w.heap.size/\
  (∀w',qa w w'->w'.rangeAt b (I+i* 14) [ι (l.getD i jv).act,ι (l.getD i jv).sub,ι (l.getD i jv).pub,ι (l.getD i jv).layer,δ H (l.getD i jv).b.length d,ι (l.getD i jv).w.1,ι (l.getD i jv).w.2,μ (l.getD i jv).acc,ω (l.getD i jv).own,ω (l.getD i jv).stamp,φ (l.getD i jv).seq,ω (l.getD i jv).s0,ω (l.getD i jv).s1,ω (l.getD i jv).s2])/\
  SlI .u8 w (δ H (l.getD i jv).b.length d) (l.getD i jv).b/\(Byt (l.getD i jv).b/\U32 (l.getD i jv).own/\U16 (l.getD i jv).seq/\ ∀v∈[(l.getD i jv).s0,(l.getD i jv).s1,(l.getD i jv).s2],0<=v/\v<=4294967295):=by
 obtain⟨G,cap,Y,aa,ab,af⟩:=id h;refine⟨G,cap,Y,aa,λi hi=> ?_⟩;obtain⟨b,I,cs,e,J,ag,ac,vb,rfl,O,ae⟩:=ab i hi;have U:l.getD i jv=l[i]:=by simp[hi]
 rw[U];obtain⟨H,d,rfl,_⟩:=id O;refine⟨b,I,H,d,e,J,λw' m j v N=> ?_,O,ae⟩;have ad:j<14:=(List.getElem?_eq_some_iff.1 N).1;rw[m.cells b _ J,ac j ad];exact N
def yk (l:List A22):Bool:=decide (120<l.length)||l.any λx=>decide (400<x.b.length)
theorem Xj {l:List A22} (h:yk l=false):l.length<=120/\ ∀i,i<l.length->(l.getD i jv).b.length<=400:=by
 unfold yk at h;rw[Bool.or_eq_false_iff] at h;refine⟨by simpa using h.1,λi hi=> ?_⟩;have:=List.any_eq_false.1 h.2 l[i] (List.getElem_mem hi);have d:l.getD i jv=l[i]:=by simp[hi]
 rw[d]
 simpa using this
theorem uS (v:Value) (l:List A22) (w:World) (af:SlP 14 uh w v l):Calls prog 10 #[v] w λe w'=>e= .returned (μ (yk l))/\qa w w':=by
 obtain⟨au,cap,rfl,ar,I⟩:=Yt af;clear af;by_cases hlen:(l.length:Int)<=120
 ·go_enter func10,ntmps10
  go_wp2
  go_loopw [10] (λi wr=> ∃j:Nat,j<=l.length/\i= ι j/\(∀i,i<j-> ¬400<(l.getD i jv).b.length)/\qa w wr) (λi _=>l.length-(intOf i).toNat)
  case atStart=>exact⟨0,τ,rfl,λi hi=>by omega,qa.refl _⟩
  case round=>
   obtain⟨j,aq,rfl,H,d⟩:=hrel;by_cases hlt:j<l.length
   ·obtain⟨b,ae,ad,ac,rfl,ap,aa,_⟩:=I j hlt;have O:=κ (aa wr d);have ao:(j:Int)<(l.length:Int):=by omega
    have ag:=κ H;have G:=κ d
    have ak:Hid (400<(l.getD j jv).b.length->yk l=true):=κ (λh=>by
     unfold yk;rw[Bool.or_eq_true]
     exact Or.inr (List.any_eq_true.2 ⟨l.getD j jv,by simp[hlt],by simpa using h⟩))
    generalize J:l.getD j jv=x at *;have aj:=κ J;clear H aa d J I hlen;by_cases an:(400:Int)<(x.b.length:Int)
    ·have N:=κ (ak.o τ)
     go_wp2_with (refine wpList_load_mid rfl 42 (.tmp 12) rfl b (ae+j* 14) rfl [ι x.act,ι x.sub,ι x.pub,ι x.layer,δ ad x.b.length ac,ι x.w.1,ι x.w.2,x.acc,ω x.own,ω x.stamp,φ x.seq,ω x.s0,ω x.s1,ω x.s2] _ O.o underlying42 rfl ξ ?_)
     go_ret;exact⟨by rw[N.o];rfl,G.o.al _⟩
    ·have U: ¬400<x.b.length:=by omega
     have ah:Hid (∀i,i<j+1-> ¬400<(l.getD i jv).b.length):=κ (λi hi=>by
      by_cases e:i<j
      ·exact ag.o i e
      ·obtain rfl:i=j:=by omega
       rw[aj.o];exact U)
     clear U
     go_wp2_with (refine wpList_load_mid rfl 42 (.tmp 12) rfl b (ae+j* 14) rfl [ι x.act,ι x.sub,ι x.pub,ι x.layer,δ ad x.b.length ac,ι x.w.1,ι x.w.2,x.acc,ω x.own,ω x.stamp,φ x.seq,ω x.s0,ω x.s1,ω x.s2] _ O.o underlying42 rfl ξ ?_)
     go_roundw
     case rel=>exact⟨j+1,τ,by go_num,ah.o,G.o.al _⟩
     case measure=>simp[intOf];omega
   ·obtain rfl:j=l.length:=by omega
    have ao: ¬(l.length:Int)<(l.length:Int):=by omega
    have Y:yk l=false:=by
     unfold yk;rw[Bool.or_eq_false_iff];refine⟨by simp;omega,List.any_eq_false.2 λx J=> ?_⟩;obtain⟨i,hi,rfl⟩:=List.mem_iff_getElem.1 J;have:=H i hi;have am:l.getD i jv=l[i]:=by simp[hi]
     rw[am] at this
     simpa using this
    have ai:=κ Y;have G:=κ d;clear Y H I d;go_wp2;go_ret;exact⟨by rw[ai.o];rfl,G.o⟩
 ·have ab:yk l=true:=by
   unfold yk;rw[Bool.or_eq_true];exact Or.inl (by simp;omega)
  have N:=κ ab;have an:(120:Int)<(l.length:Int):=by omega
  clear I ab hlen
  go_enter func10,ntmps10
  go_wp2;go_ret;exact⟨by rw[N.o];rfl,qa.refl _⟩
section
variable {P:Program} {C:World->Prop} {K:Act->World->Prop} {a:Act} {w:World} {d:Option Tmp} {t:TypeId} {ty:TypeId} {ps:String} {af:Array Edge}
theorem Xk (h:C (w.alloc (.map #[] 0))/\K (a.put d (.map (some w.heap.size))) (w.alloc (.map #[] 0))):jn P C {dst:=d,op:= .makeMap t none,type:=ty,pos:=ps,after:=af,guard:=none} a w K:=by
 unfold jn execOp;simp only[Option.map_none,Sem.run_bind,run_makeMap,Result.andThen_ok,Sem.run_pure];exact h
end
section
variable {C:World->Prop} {K:Act->World->Prop} {a:Act} {w:World} {d:Option Tmp} {ty:TypeId} {ps:String} {af:Array Edge}
theorem Pr (h:Calls prog 43 #[] w λe w''=> ∃v,e= .returned v/\C w''/\K (a.put d v) w''):jn prog C {dst:=d,op:= .call {callee:= .value (.func 43),args:= #[],argTypes:= #[]},type:=ty,pos:=ps,after:=af,guard:=none} a w K:=by
 unfold jn;go_simp;exact h
theorem UN (h:Calls prog 44 #[] w λe w''=> ∃v,e= .returned v/\C w''/\K (a.put d v) w''):jn prog C {dst:=d,op:= .call {callee:= .value (.func 44),args:= #[],argTypes:= #[]},type:=ty,pos:=ps,after:=af,guard:=none} a w K:=by
 unfold jn;go_simp;exact h
end
theorem uP (a:Act) (i:Nat) (v u:Value):(a.put (some i) v).put (some i) u=a.put (some i) u:=by
 simp[Act.put]
theorem zN (a:Act) {i j:Nat} (v u:Value) (h:i≠j):(a.put (some i) v).put (some j) u=(a.put (some j) u).put (some i) v:=
 Act.put_comm a v u (λG d e=>h (by injection d with d;injection e with e;omega))
theorem kh (a:Act) (i:Nat) (h:i<a.tmps.size):a.put (some i) (a.tmps.getD i undef)=a:=by
 obtain⟨t,d⟩:=a;have e:t.setIfInBounds i (t.getD i undef)=t:=by
  apply Array.ext
  ·simp
  ·intro j H G;rw[Array.getElem_setIfInBounds];split
   ·rename_i q;subst q;simp[G]
   ·rfl
 show Act.mk (t.setIfInBounds i (t.getD i undef)) d=⟨t,d⟩;rw[e]
structure Xs where
 x42:Value
 x43:Value
 x45:Value
 x47:Value
 x48:Value
 x49:Value
def pA (A:Act) (x:Xs):Act:=(((((A.put (some 42) x.x42).put (some 43) x.x43).put (some 45) x.x45).put (some 47) x.x47).put (some 48) x.x48).put (some 49) x.x49
theorem L8 (A:Act) (x:Xs) (v:Value):(pA A x).put (some 42) v=pA A {x with x42:=v}:=by
 unfold pA;rw[zN (i:=49) (j:=42) _ x.x49 v ζ,zN (i:=48) (j:=42) _ x.x48 v ζ,zN (i:=47) (j:=42) _ x.x47 v ζ,zN (i:=45) (j:=42) _ x.x45 v ζ,zN (i:=43) (j:=42) _ x.x43 v ζ,uP]
theorem LZ (A:Act) (x:Xs) (v:Value):(pA A x).put (some 43) v=pA A {x with x43:=v}:=by
 unfold pA;rw[zN (i:=49) (j:=43) _ x.x49 v ζ,zN (i:=48) (j:=43) _ x.x48 v ζ,zN (i:=47) (j:=43) _ x.x47 v ζ,zN (i:=45) (j:=43) _ x.x45 v ζ,uP]
theorem LY (A:Act) (x:Xs) (v:Value):(pA A x).put (some 45) v=pA A {x with x45:=v}:=by
 unfold pA;rw[zN (i:=49) (j:=45) _ x.x49 v ζ,zN (i:=48) (j:=45) _ x.x48 v ζ,zN (i:=47) (j:=45) _ x.x47 v ζ,uP]
theorem LW (A:Act) (x:Xs) (v:Value):(pA A x).put (some 47) v=pA A {x with x47:=v}:=by
 unfold pA;rw[zN (i:=49) (j:=47) _ x.x49 v ζ,zN (i:=48) (j:=47) _ x.x48 v ζ,uP]
theorem LV (A:Act) (x:Xs) (v:Value):(pA A x).put (some 48) v=pA A {x with x48:=v}:=by
 unfold pA;rw[zN (i:=49) (j:=48) _ x.x49 v ζ,uP]
theorem LU (A:Act) (x:Xs) (v:Value):(pA A x).put (some 49) v=pA A {x with x49:=v}:=by
 unfold pA;rw[uP]
theorem Bu (A:Act) (x:Xs) (h:50<=A.tmps.size):(pA A x).eval (.tmp 42)=x.x42:=by
 unfold pA;simp[Act.put,Act.eval,Array.getElem?_setIfInBounds,(by omega:42<A.tmps.size)]
structure Yk (wB:World) (d0 d3 d5 d6 d7:Bool) (x:Xs) (w:World) (T:Nat->Tg):Prop where
 more:qa wB w
 fresh: ∀b,T b≠ .no->wB.heap.size<=b/\b<w.heap.size
 bk:d0=true-> ∃B b,x.x42= .pointer (some ⟨B,0,none⟩)/\x.x43= .agg #[.pointer (some ⟨B,0,none⟩)]/\T B= .book/\T b= .book/\jy w B b []
 rt:d3=true-> ∃M,x.x45= .map (some M)/\T M= .ret/\jk w M kO Value.bool []
 tb:d5=true-> ∃t a b c,x.x47= .pointer (some ⟨t,0,none⟩)/\T t= .table/\T a= .table/\T b= .table/\T c= .table/\jq w t a b c ⟨[],[],[]⟩
 ls:d6=true-> ∃M,x.x48= .map (some M)/\T M= .lns/\jk w M (Value.int .i64) gj []
 ss:d7=true-> ∃M,x.x49= .map (some M)/\T M= .sts/\jk w M kO gj []
section
variable {wB w w':World} {d0 d3 d5 d6 d7:Bool} {x:Xs} {T:Nat->Tg}
theorem Yk.no (h:Yk wB d0 d3 d5 d6 d7 x w T): ∀b,w.heap.size<=b->T b= .no:=λb d=>by
 cases e:T b<;>first | rfl | (exfalso;have:=(h.fresh b (by rw[e];simp)).2;omega)
theorem Yk.grow (h:Yk wB d0 d3 d5 d6 d7 x w T) (m:qa w w') (t:Tg):Yk wB d0 d3 d5 d6 d7 x w' (jZ T t w w'):=by
 have O:=h.no;have k: ∀{b:Nat} {u:Tg},u≠ .no->T b=u->jZ T t w w' b=u:=λU I=>(jd O U _).2 (Or.inl I)
 refine⟨h.more.trans m,λb I=> ?_,λe=> ?_,λe=> ?_,λe=> ?_,λe=> ?_,λe=> ?_⟩
 ·unfold jZ at I;split at I
  ·rename_i q;exact⟨Nat.le_trans h.more.size q.1,q.2⟩
  ·have:=h.fresh b I;exact⟨this.1,Nat.lt_of_lt_of_le this.2 m.size⟩
 ·obtain⟨B,b,d,G,H,J,N⟩:=h.bk e;exact⟨B,b,d,G,k η H,k η J,N.more m⟩
 ·obtain⟨M,d,G,H⟩:=h.rt e;exact⟨M,d,k η G,H.more m⟩
 ·obtain⟨t,a,b,c,d,G,H,J,N,Y⟩:=h.tb e;exact⟨t,a,b,c,d,k η G,k η H,k η J,k η N,Y.more m⟩
 ·obtain⟨M,d,G,H⟩:=h.ls e;exact⟨M,d,k η G,H.more m⟩
 ·obtain⟨M,d,G,H⟩:=h.ss e;exact⟨M,d,k η G,H.more m⟩
theorem yb (H: ∀b,w.heap.size<=b->T b= .no) {t:Tg} (I:t≠ .no) {b:Nat} (d:w.heap.size<=b) (G:b<w'.heap.size):jZ T t w w' b=t:=(jd H I b).2 (Or.inr ⟨rfl,d,G⟩)
end
theorem vm {o:Oper} {y:Nat->Option Bool} {p q:Prop} (h:Region.wanted o y=true) (d:p):if Region.wanted o y then p else q:=by
 rw[if_pos h];exact d
def wy:Nat->Bool->Bool->Bool->Bool->Bool->Tr
 | 0,_,_,_,_,_=> .op 8 false (.op 9 true (.op 10 false (.op 11 false .done)))
 | n+1,d0,d3,d5,d6,d7=> .br ((if d0 then [] else [0])++(if d3 then [] else [3])++(if d0&& !d5 then [5] else [])++(if d6 then [] else [6])++(if d7 then [] else [7]))
  (λk=>if k=0 then .op 1 false (wy n true d3 d5 d6 d7) else if k=3 then wy n d0 true d5 d6 d7 else if k=5 then wy n d0 d3 true d6 d7 else if k=6 then wy n d0 d3 d5 true d7 else wy n d0 d3 d5 d6 true)
def JP (d0 d3 d5 d6 d7:Bool):Nat:=(if d0 then 0 else 1)+(if d3 then 0 else 1)+(if d5 then 0 else 1)+(if d6 then 0 else 1)+(if d7 then 0 else 1)
section
variable {l:List Oper} {T0:Nat} {Q:Act->World->Prop} {A:Act} {wB:World}
theorem It (aq:50<=A.tmps.size)
  (ae: ∃ty ps af,l[0]? =some {dst:=some 42,op:= .call {callee:= .value (.func 43),args:= #[],argTypes:= #[]},type:=ty,pos:=ps,after:=af,guard:=none})
  (ag: ∃ty ps af,l[1]? =some {dst:=some 43,op:= .build 86 #[(0,.tmp 42)],type:=ty,pos:=ps,after:=af,guard:=none})
  (ah: ∃ty ps af,l[3]? =some {dst:=some 45,op:= .makeMap 87 none,type:=ty,pos:=ps,after:=af,guard:=none})
  (ai: ∃ty ps af,l[5]? =some {dst:=some 47,op:= .call {callee:= .value (.func 44),args:= #[],argTypes:= #[]},type:=ty,pos:=ps,after:=af,guard:=none})
  (aj: ∃ty ps af,l[6]? =some {dst:=some 48,op:= .makeMap 90 none,type:=ty,pos:=ps,after:=af,guard:=none})
  (ak: ∃ty ps af,l[7]? =some {dst:=some 49,op:= .makeMap 91 none,type:=ty,pos:=ps,after:=af,guard:=none})
  (ap: ∀x w T,Yk wB true true true true true x w T->zk prog l.toArray T0 (λw'=> ∃y:qt wB,w'=y.w') Q (.op 8 false (.op 9 true (.op 10 false (.op 11 false .done)))) (pA A x) w):
  ∀(n:Nat) (O H I J N:Bool) (x:Xs) (w:World) (T:Nat->Tg),n=JP O H I J N->Yk wB O H I J N x w T->zk prog l.toArray T0 (λw'=> ∃y:qt wB,w'=y.w') Q (wy n O H I J N) (pA A x) w:=by
 obtain⟨aH,aB,au,ae⟩:=ae;obtain⟨aI,aC,av,ag⟩:=ag;obtain⟨aJ,aD,aw,ah⟩:=ah;obtain⟨aK,aE,ax,ai⟩:=ai;obtain⟨aL,aF,ay,aj⟩:=aj;obtain⟨aM,aG,az,ak⟩:=ak;intro n
 induction n with
 | zero=>
  intro O H I J N x w T aa U;have e:O=true/\H=true/\I=true/\J=true/\N=true:=by
   cases O<;>cases H<;>cases I<;>cases J<;>cases N<;>simp[JP] at aa ⊢
  obtain⟨rfl,rfl,rfl,rfl,rfl⟩:=e;exact ap x w T U
 | succ n ih=>
  intro O H I J N x w T aa U;have Y:=U.no;unfold wy;unfold zk;intro k G;simp only[List.mem_append] at G;rcases G with (((G | G) | G) | G) | G
  ·cases O with
   | true=>simp at G
   | false=>
    simp at G;subst G;simp only[List.getElem?_toArray,ae,Option.getD_some,if_true];refine vm rfl ?_;refine zm (D:=λw'=> ∃y:qt wB,w'=y.w') (λ_ h=>yF h) (Pr ?_);refine(Nv w).mono ?_;rintro e w' ⟨B,b,rfl,al,am,ab,ac⟩;have d:=U.grow ac .book;refine⟨_,rfl,qk (U.more.trans ac), ?_⟩;rw[L8];show zk _ _ _ _ _ (.op 1 false (wy n true H I J N)) _ _;refine qH ag rfl (qk (U.more.trans ac)) λK ar=> ?_
    refine⟨θ #[γ B],λw2 aA=> ?_, ?_⟩
    ·unfold Oper.quietAt execOp;simp only[List.map_toArray,List.map_cons,List.map_nil];have an:=Bu A {x with x42:= γ B} aq;simp only at an;rw[an];go_simp
    ·refine ar _ ?_;rw[LZ];exact ih true H I J N _ w' _ (by cases H<;>cases I<;>cases J<;>cases N<;>simp[JP] at aa ⊢ <;>omega)
      ⟨d.more,d.fresh,λ_=>⟨B,b,rfl,rfl,yb Y η al (qn ab.blk),yb Y η am ab.map.lt,ab⟩,d.rt,d.tb,d.ls,d.ss⟩
  ·cases H with
   | true=>simp at G
   | false=>
    simp at G;subst G;simp only[List.getElem?_toArray,ah,Option.getD_some];refine vm rfl ?_;have m:=qa.alloc w (.map #[] 0);have d:=U.grow m .ret;refine zm (D:=λw'=> ∃y:qt wB,w'=y.w') (λ_ h=>yF h) (Xk ⟨qk d.more, ?_⟩);rw[LY];exact ih O true I J N _ _ _ (by cases O<;>cases I<;>cases J<;>cases N<;>simp[JP] at aa ⊢ <;>omega)
     ⟨d.more,d.fresh,d.bk,λ_=>⟨w.heap.size,rfl,yb Y η (Nat.le_refl _) η,jk.made w _ _⟩,d.tb,d.ls,d.ss⟩
  ·cases O<;>cases I<;>simp at G
   subst G;simp only[List.getElem?_toArray,ai,Option.getD_some];refine vm rfl ?_;refine zm (D:=λw'=> ∃y:qt wB,w'=y.w') (λ_ h=>yF h) (UN ?_);refine(Mv w).mono ?_;rintro e w' ⟨t,a,b,c,rfl,al,am,ab,ac,ad,ao⟩;have d:=U.grow ao .table;refine⟨_,rfl,qk (U.more.trans ao), ?_⟩;rw[LW];exact ih true H true J N _ w' _ (by cases H<;>cases J<;>cases N<;>simp[JP] at aa ⊢ <;>omega)
    ⟨d.more,d.fresh,d.bk,d.rt,λ_=>⟨t,a,b,c,rfl,yb Y η al (qn ad.blk),yb Y η am ad.mo.lt,yb Y η ab ad.ms.lt,yb Y η ac ad.mu.lt,ad⟩,d.ls,d.ss⟩
  ·cases J with
   | true=>simp at G
   | false=>
    simp at G;subst G;simp only[List.getElem?_toArray,aj,Option.getD_some];refine vm rfl ?_;have m:=qa.alloc w (.map #[] 0);have d:=U.grow m .lns;refine zm (D:=λw'=> ∃y:qt wB,w'=y.w') (λ_ h=>yF h) (Xk ⟨qk d.more, ?_⟩);rw[LV];exact ih O H I true N _ _ _ (by cases O<;>cases H<;>cases I<;>cases N<;>simp[JP] at aa ⊢ <;>omega)
     ⟨d.more,d.fresh,d.bk,d.rt,d.tb,λ_=>⟨w.heap.size,rfl,yb Y η (Nat.le_refl _) η,jk.made w _ _⟩,d.ss⟩
  ·cases N with
   | true=>simp at G
   | false=>
    simp at G;subst G;simp only[List.getElem?_toArray,ak,Option.getD_some];refine vm rfl ?_;have m:=qa.alloc w (.map #[] 0);have d:=U.grow m .sts;refine zm (D:=λw'=> ∃y:qt wB,w'=y.w') (λ_ h=>yF h) (Xk ⟨qk d.more, ?_⟩);rw[LU];exact ih O H I J true _ _ _ (by cases O<;>cases H<;>cases I<;>cases J<;>simp[JP] at aa ⊢ <;>omega)
     ⟨d.more,d.fresh,d.bk,d.rt,d.tb,d.ls,λ_=>⟨w.heap.size,rfl,yb Y η (Nat.le_refl _) η,jk.made w _ _⟩⟩
theorem EB (A:Act) (h:50<=A.tmps.size): ∃x,pA A x=A:=by
 refine⟨⟨A.tmps.getD 42 undef,A.tmps.getD 43 undef,A.tmps.getD 45 undef,A.tmps.getD 47 undef,A.tmps.getD 48 undef,A.tmps.getD 49 undef⟩, ?_⟩;unfold pA;simp only;rw[kh A 42 τ,kh A 43 τ,kh A 45 τ,kh A 47 τ,kh A 48 τ,kh A 49 τ]
theorem Pn (d:50<=A.tmps.size)
  (H: ∃ty ps af,l[0]? =some {dst:=some 42,op:= .call {callee:= .value (.func 43),args:= #[],argTypes:= #[]},type:=ty,pos:=ps,after:=af,guard:=none})
  (I: ∃ty ps af,l[1]? =some {dst:=some 43,op:= .build 86 #[(0,.tmp 42)],type:=ty,pos:=ps,after:=af,guard:=none})
  (J: ∃ty ps af,l[3]? =some {dst:=some 45,op:= .makeMap 87 none,type:=ty,pos:=ps,after:=af,guard:=none})
  (N: ∃ty ps af,l[5]? =some {dst:=some 47,op:= .call {callee:= .value (.func 44),args:= #[],argTypes:= #[]},type:=ty,pos:=ps,after:=af,guard:=none})
  (O: ∃ty ps af,l[6]? =some {dst:=some 48,op:= .makeMap 90 none,type:=ty,pos:=ps,after:=af,guard:=none})
  (U: ∃ty ps af,l[7]? =some {dst:=some 49,op:= .makeMap 91 none,type:=ty,pos:=ps,after:=af,guard:=none})
  (w:World) (m:qa wB w)
  (G: ∀x w T,Yk wB true true true true true x w T->zk prog l.toArray T0 (λw'=> ∃y:qt wB,w'=y.w') Q (.op 8 false (.op 9 true (.op 10 false (.op 11 false .done)))) (pA A x) w):
  zk prog l.toArray T0 (λw'=> ∃y:qt wB,w'=y.w') Q (wy 5 false false false false false) A w:=by
 obtain⟨x,e⟩:=EB A d;have:=It (Q:=Q) (T0:=T0) d H I J N O U G 5 false false false false false x w (λ_=> .no) rfl ⟨m,λb Y=>absurd rfl Y,λe=>(by cases e),λe=>(by cases e),λe=>(by cases e),λe=>(by cases e),λe=>(by cases e)⟩;rw[e] at this;exact this
end
theorem Ba {w I w8 w9:World} {c:CfR} {x:Xs} {T:Nat->Tg} {RQ AQ R:Nat} (ae:qa w I) (G:Yk I true true true true true x w8 T) (aF:w.heap.size<=RQ/\RQ<I.heap.size) (aG:w.heap.size<=AQ/\AQ<I.heap.size)
  (d:zR I RQ AQ c.room.toNat 0 [] 0 0 0 0 (List.replicate c.room.toNat [δ none 0 0])) (N:qa w8 w9) (aE:w8.heap.size<=R/\R<w9.heap.size)
  (ar: ∀B O aa U Y,x.x43= θ #[γ B]->x.x45= .map (some O)->x.x47= γ aa->x.x48= .map (some U)->x.x49= .map (some Y)->w9.heap[R]? =some (.cells #[γ B,ι c.room,ι c.hold,ι c.wait,ι c.space,ι c.retry,ι c.most,false,.map (some O),ι 0,γ RQ,γ aa,.map (some U),.map (some Y),(),(),ι 0,ι 0,ι 0,ι 0,ι 0] 95 (0,0))):
  ∃k,k.R=R/\qI w w9 k (ud c) []:=by
 obtain⟨B,b,aD,ag,aw,tb,al⟩:=G.bk rfl;obtain⟨O,ah,ax,am⟩:=G.rt rfl;obtain⟨aa,aA,aB,aC,ai,t1,t2,t3,t4,ap⟩:=G.tb rfl;obtain⟨U,aj,ay,an⟩:=G.ls rfl;obtain⟨Y,ak,az,ao⟩:=G.ss rfl;have au:=ar B O aa U Y ag ah ai aj ak;have aH:=G.more.size;have aq: ∀{q:Nat} {u:Tg},u≠ .no->T q=u->I.heap.size<=q/\q<w8.heap.size:=λad d=>G.fresh _ (by rw[d];exact ad)
 obtain⟨ab,J⟩: ∃ab:Nat->Tg,ab=λq=>if q=RQ∨q=AQ then Tg.queue else if q=R then Tg.room else T q:=⟨_,rfl⟩
 have H: ∀{q:Nat} {u:Tg},u≠ .no->T q=u->ab q=u:=λad d=>by
  have:=aq ad d;rw[J];simp only;rw[if_neg τ,if_neg τ];exact d
 have af:qa I w9:=G.more.trans N;refine⟨⟨R,O,RQ,AQ,aa,aA,aB,aC,B,b,U,Y,[],[]⟩,rfl,ab,δ none 0 0,δ none 0 0,⟨λu=> ?_,λq d=> ?_,λq d=>(by cases d),ae.trans af⟩⟩
 ·cases u with
  | no=>
   intro q d;rw[J];simp only;rw[if_neg τ,if_neg τ];cases e:T q<;>first | rfl | (exfalso;have:=(G.fresh q (by rw[e];simp)).2;omega)
  | junk=>trivial
  | data=>trivial
  | room=>
   refine⟨?_,au⟩;rw[J];simp only;rw[if_neg τ];simp
  | ret=>exact⟨H η ax,am.more N⟩
  | queue=>
   have av:=d.more af;refine⟨by rw[J];simp,by rw[J];simp,0,[],0,0,0,0,_,av,trivial⟩
  | table=>exact⟨H η t1,H η t2,H η t3,H η t4,ap.more N⟩
  | book=>exact⟨H η aw,H η tb,al.more N⟩
  | lns=>exact⟨H η ay,an.more N⟩
  | sts=>exact⟨H η az,ao.more N⟩
  | pks=>exact⟨je.nil _ _ _ _ _ _,λg ac=>by cases ac⟩
  | reqs=>exact⟨je.nil _ _ _ _ _ _,λg ac=>by cases ac⟩
  | lane y=>exact⟨λp l h=>(by cases h),rfl⟩
  | str o=>exact⟨λp t h=>(by cases h),rfl⟩
 ·rw[J] at d;simp only at d;have:=ae.size;split at d
  ·rename_i e;rcases e with e | e<;>omega
  ·split at d
   ·omega
   ·have:=(G.fresh q d).1;omega
theorem Nt (c:CfR) (av:xY c=true) (w:World):
  Calls prog 9 #[θ #[ι c.room,ι c.hold,ι c.wait,ι c.space,ι c.retry,ι c.most]] w λe w'=> ∃k,e= .returned (.tuple #[γ k.R,ι 0])/\qI w w' k (ud c) []/\qa w w':=by
 obtain⟨c1,c2,c3,c4⟩:=kF av;obtain⟨W1,N⟩:=ν (w.alloc (.cells #[ι c.room,ι c.hold,ι c.wait,ι c.space,ι c.retry,ι c.most] 25));have U:Hid (qa w W1):=κ (by rw[<-N];exact qa.alloc _ _);have d:Hid (W1.heap[w.heap.size]? =some (.cells #[ι c.room,ι c.hold,ι c.wait,ι c.space,ι c.retry,ι c.most] 25 (0,0))):=κ (by rw[<-N];exact qj w _);have aL:=κ (ZK c.room c.room.toNat τ τ τ W1);have aJ:=κ (λw'=>YM c.hold c.wait w' c2);have af:=κ (λw'=>Qf c.space c.retry w');rw[decide_eq_true c3] at af;have aX:=β0 d.o;clear c1 c2 c3 av
 go_enter func9,ntmps9
 go_upto_region 1 with fail
 (try rw[N])
 clear N
 go_upto_region 9 with (first | (go_at_call 40;(go_call aL.o as e w2 ⟨rfl,ar,n2⟩;have ae:=κ ar;have aN:=κ n2;have aY:=β1 (qc n2 d.o);have aZ:=β2 (qc n2 d.o);clear ar n2)) | (go_at_call 41;(go_call aJ.o _ as e bg ⟨rfl,_,ab,_⟩;have Y:=κ (aN.o.trans ab);have aO:=κ ab;have ba:=β3 (qc Y.o d.o);have bb:=β4 (qc Y.o d.o);clear ab)) | (go_at_call 42;(go_call af.o _ as e w4 ⟨rfl,ac⟩;have G:=κ (Y.o.trans ac);have ah:=κ (aO.o.trans ac);have bc:=β5 (qc G.o d.o);clear ac)))
 have aC: ∀y:qt w4,y.w'.cell? ⟨w.heap.size,0,none⟩=some (ι c.room):=λy=>qb (qc (G.o.trans y.h) d.o) 0 rfl
 have aD: ∀y:qt w4,y.w'.cell? ⟨w.heap.size,1,none⟩=some (ι c.hold):=λy=>qb (qc (G.o.trans y.h) d.o) 1 rfl
 have aE: ∀y:qt w4,y.w'.cell? ⟨w.heap.size,2,none⟩=some (ι c.wait):=λy=>qb (qc (G.o.trans y.h) d.o) 2 rfl
 have aF: ∀y:qt w4,y.w'.cell? ⟨w.heap.size,3,none⟩=some (ι c.space):=λy=>qb (qc (G.o.trans y.h) d.o) 3 rfl
 have aG: ∀y:qt w4,y.w'.cell? ⟨w.heap.size,4,none⟩=some (ι c.retry):=λy=>qb (qc (G.o.trans y.h) d.o) 4 rfl
 have aH: ∀y:qt w4,y.w'.cell? ⟨w.heap.size,5,none⟩=some (ι c.most):=λy=>qb (qc (G.o.trans y.h) d.o) 5 rfl
 refine zB w4 12 (.op 2 false (.op 4 false (wy 5 false false false false false))) ξ ξ ?_
 iterate 2 (refine qH rfl rfl (qk ρ) ?_;intro K I;go_big_quiet_op;go_big_quiet_on)
 clear aC aD aE aF aG aH;refine Pn η ⟨_,_,_,rfl⟩ ⟨_,_,_,rfl⟩ ⟨_,_,_,rfl⟩ ⟨_,_,_,rfl⟩ ⟨_,_,_,rfl⟩ ⟨_,_,_,rfl⟩ _ (qa.drewN w4 1) ?_;intro x w8 T H;obtain⟨B,b,ak,am,_⟩:=H.bk rfl;obtain⟨ag,an,_⟩:=H.rt rfl;obtain⟨aB,bd,be,bf,ao,_⟩:=H.tb rfl;obtain⟨ai,ap,_⟩:=H.ls rfl;obtain⟨aj,aq,_⟩:=H.ss rfl;have aI:=κ H;have J:=κ H.more;clear H;obtain⟨x42,x43,x45,x47,x48,x49⟩:=x;simp only at ak am an ao ap aq;subst ak am an ao ap aq;unfold pA;simp only[Act.put];go_simp;refine qH rfl rfl (qk J.o) ?_;intro K I
 go_big_quiet_op
 go_big_quiet_on
 (refine qO rfl rfl ?_;intro K I;unfold jn;go_simp)
 refine⟨qk (J.o.al _),I _ _ ?_⟩;clear I K;obtain⟨w9,O⟩:=ν (w8.alloc (.cells #[γ B,ι c.room,ι c.hold,ι c.wait,ι c.space,ι c.retry,ι c.most,false,.map (some ag),ι 0,γ (W1.heap.size+1),γ aB,.map (some ai),.map (some aj),(),(),ι 0,ι 0,ι 0,ι 0,ι 0] 95));have aa:Hid (qa w8 w9):=κ (by rw[<-O];exact qa.alloc _ _);have ad:Hid (w9.heap[w8.heap.size]? =some (.cells #[γ B,ι c.room,ι c.hold,ι c.wait,ι c.space,ι c.retry,ι c.most,false,.map (some ag),ι 0,γ (W1.heap.size+1),γ aB,.map (some ai),.map (some aj),(),(),ι 0,ι 0,ι 0,ι 0,ι 0] 95 (0,0))):=κ (by rw[<-O];exact qj w8 _)
 (try rw[O])
 clear O
 iterate 2 (refine qH rfl rfl (qk (J.o.trans aa.o)) ?_;intro K I;go_big_quiet_op;go_big_quiet_on)
 refine zg ?_;have aQ:=qn ae.o.ring;have aR:=ah.o.size;have aS:=U.o.size
 obtain⟨aT,aP,au⟩:=Ba (c:=c) (RQ:=W1.heap.size+1) (AQ:=W1.heap.size) (R:=w8.heap.size) (U.o.trans G.o) aI.o ⟨τ,τ⟩ ⟨τ,τ⟩ (ae.o.more ah.o) aa.o ⟨Nat.le_refl _,qn ad.o⟩ (λaU aW t' aV S' aw ax ay az aA=>by
  simp at aw ax ay az aA;subst aw ax ay az aA
  exact ad.o)
 have aM:=κ au;have aK:=κ (U.o.trans (G.o.trans (J.o.trans aa.o)));clear au aQ aR aS;go_wp2
 go_ret2
 exact⟨aT,by rw[aP];rfl,aM.o,aK.o⟩
theorem YL (c:CfR) (O:xY c=false) (w:World):
  Calls prog 9 #[θ #[ι c.room,ι c.hold,ι c.wait,ι c.space,ι c.retry,ι c.most]] w λe w'=>e= .returned (.tuple #[π none,ι 1])/\qa w w':=by
 obtain⟨W1,G⟩:=ν (w.alloc (.cells #[ι c.room,ι c.hold,ι c.wait,ι c.space,ι c.retry,ι c.most] 25));have ac:Hid (qa w W1):=κ (by rw[<-G];exact qa.alloc _ _);have d:Hid (W1.heap[w.heap.size]? =some (.cells #[ι c.room,ι c.hold,ι c.wait,ι c.space,ι c.retry,ι c.most] 25 (0,0))):=κ (by rw[<-G];exact qj w _);have ak:=β0 d.o;by_cases hr:c.room<1∨8<c.room
 ·have J:=κ (BJ c.room hr W1);clear hr O
  go_enter func9,ntmps9
  go_upto_region 1 with fail
  (try rw[G])
  clear G
  go_wp2_with ((go_at_call 40;(go_call J.o as e w2 ⟨rfl,n2⟩;have H:=κ n2;clear n2)))
  go_ret2
  exact⟨rfl,ac.o.trans H.o⟩
 ·have J:=κ (ZK c.room c.room.toNat τ τ τ W1);by_cases hj:gt c.hold c.wait
  ·have ab:=κ (λw'=>YM c.hold c.wait w' hj);have aa:=κ (λw'=>Qf c.space c.retry w');by_cases ha:1<=c.space/\c.space<=c.retry/\c.retry<=1000
   ·rw[decide_eq_true ha] at aa;have ae:c.most<1∨10<c.most:=by
     simp[xY,hj,ha] at O;omega
    rcases ae with ae | ae
    all_goals
     clear hr O hj ha
     go_enter func9,ntmps9
     go_upto_region 1 with fail
     (try rw[G])
     clear G
     go_wp2_with (first | (go_at_call 40;(go_call J.o as e w2 ⟨rfl,N,n2⟩;have H:=κ n2;have af:=β1 (qc n2 d.o);have ag:=β2 (qc n2 d.o);clear N n2)) | (go_at_call 41;(go_call ab.o _ as e ah ⟨rfl,_,U,_⟩;have I:=κ (H.o.trans U);have ai:=β3 (qc I.o d.o);have aj:=β4 (qc I.o d.o);clear U)) | (go_at_call 42;(go_call aa.o _ as e w4 ⟨rfl,Y⟩;have ad:=κ (I.o.trans Y);have al:=β5 (qc ad.o d.o);clear Y)))
     go_ret2
     exact⟨rfl,ac.o.trans ad.o⟩
   ·rw[decide_eq_false ha] at aa;clear hr O hj ha
    go_enter func9,ntmps9
    go_upto_region 1 with fail
    (try rw[G])
    clear G
    go_wp2_with (first | (go_at_call 40;(go_call J.o as e w2 ⟨rfl,N,n2⟩;have H:=κ n2;have af:=β1 (qc n2 d.o);have ag:=β2 (qc n2 d.o);clear N n2)) | (go_at_call 41;(go_call ab.o _ as e ah ⟨rfl,_,U,_⟩;have I:=κ (H.o.trans U);have ai:=β3 (qc I.o d.o);have aj:=β4 (qc I.o d.o);clear U)) | (go_at_call 42;(go_call aa.o _ as e w4 ⟨rfl,Y⟩;have ad:=κ (I.o.trans Y);clear Y)))
    go_ret2
    exact⟨rfl,ac.o.trans ad.o⟩
  ·have ab:=κ (λw'=>Lq c.hold c.wait w' hj);clear hr O hj
   go_enter func9,ntmps9
   go_upto_region 1 with fail
   (try rw[G])
   clear G
   go_wp2_with (first | (go_at_call 40;(go_call J.o as e w2 ⟨rfl,N,n2⟩;have H:=κ n2;have af:=β1 (qc n2 d.o);have ag:=β2 (qc n2 d.o);clear N n2)) | (go_at_call 41;(go_call ab.o _ as e ah ⟨rfl,rfl⟩)))
   go_ret2
   exact⟨rfl,ac.o.trans H.o⟩
def RmR (w0 w:World) (R:Nat) (s:RmS) (F:List Nat):Prop:= ∃k:RmK,k.R=R/\qI w0 w k s F
section
variable {w0 w w':World} {R:Nat} {s s':RmS} {F F' Fn:List Nat} {n:Nat}
theorem RmR.on (h:RmR w0 w R s F) (m:qa w w'):RmR w0 w' R s F:=h.elim λk h=>⟨k,h.1,h.2.on m⟩
theorem RmR.sub (h:RmR w0 w R s F) (d: ∀b∈F',b∈F):RmR w0 w R s F':=h.elim λk h=>⟨k,h.1,h.2.sub d⟩
theorem RmR.adds (h:RmR w0 w R s F) (m:qa w w') (d: ∀b∈Fn,w.heap.size<=b/\b<w'.heap.size):RmR w0 w' R s (Fn++F):=h.elim λk h=>⟨k,h.1,h.2.adds m d⟩
theorem RmR.more (h:RmR w0 w R s F):qa w0 w:=h.elim λ_ h=>h.2.more
theorem RmR.stay (h:RmR w0 w R s F) (m:qa w w'):qw F w w':=h.elim λ_ h=>h.2.stay m
theorem RmR.lt (h:RmR w0 w R s F): ∀b∈F,b<w.heap.size:=λb d=>h.elim λ_ h=>(h.2.law b d).2
theorem RmR.bk (h:RmR w0 w R s F): ∃B b,w.cell? ⟨R,0,none⟩=some (π (some ⟨B,0,none⟩))/\jy w B b s.book:=by
 obtain⟨k,rfl,T,vp,d,h⟩:=h;exact⟨k.B,k.b,qb h.blk 0 rfl,h.bok⟩
theorem RmR.tkeys (h:RmR w0 w R s F):(s.tab.u.map Prod.fst).Nodup:=by
 obtain⟨k,rfl,T,vp,d,h⟩:=h;exact h.tab.mu.keys
theorem RmR.bkeys (h:RmR w0 w R s F):(s.book.map Prod.fst).Nodup:=by
 obtain⟨k,rfl,T,vp,d,h⟩:=h;exact h.bok.map.keys
theorem JN (c:CfR) (d:xY c=true) (w:World):
  Calls prog 9 #[θ #[ι c.room,ι c.hold,ι c.wait,ι c.space,ι c.retry,ι c.most]] w λe w'=> ∃R,e= .returned (.tuple #[γ R,ι 0])/\RmR w w' R (ud c) []/\qa w w':=
 (Nt c d w).mono λ_ _ h=>h.elim λk h=>⟨k.R,h.1,⟨k,rfl,h.2.1⟩,h.2.2⟩
theorem MU (h:RmR w0 w R s F) (G:xY s.cfg=true) (p s0 s1 s2:Int) {a:Int} (H:s.publish p s0 s1 s2=(s',a)):
  Calls prog 45 #[γ R,ι p,θ #[ω s0,ω s1,ω s2]] w λe w'=>e= .returned (ι a)/\RmR w0 w' R s' F/\qw F w w':=by
 obtain⟨k,rfl,h⟩:=h;refine(V0 h G p s0 s1 s2).mono ?_;rintro e w' ⟨k',I,rfl,d,t⟩;rw[H] at d ⊢;exact⟨rfl,⟨k',I,d⟩,t⟩
theorem Me (h:RmR w0 w R s F) (H:xY s.cfg=true) (x d sq st:Int) (O:U16 sq) (N:U32 d) {a:Int} (I:s.join x d sq st=(s',a)):
  Calls prog 35 #[γ R,ι x,ω d,φ sq,ω st] w λe w'=>e= .returned (ι a)/\RmR w0 w' R s' F/\qw F w w':=by
 obtain⟨k,rfl,h⟩:=h;refine(Hr h H x d sq st O N).mono ?_;rintro e w' ⟨k',J,rfl,G,t⟩;rw[I] at G ⊢;exact⟨rfl,⟨k',J,G⟩,t⟩
theorem LQ (h:RmR w0 w R s F) (H:qV n s) (I:n<=1000) (x p m:Int) {a:Int} (G:s.subscribe x p m=(s',a)):
  Calls prog 46 #[γ R,ι x,ι p,ι m] w λe w'=>e= .returned (ι a)/\RmR w0 w' R s' F/\qw F w w':=by
 obtain⟨k,rfl,h⟩:=h;refine(XM h (H.subs I) x p m).mono ?_;rintro e w' ⟨rfl,d,t⟩;rw[G] at d ⊢;exact⟨rfl,⟨k,rfl,d⟩,t⟩
theorem F5 (h:RmR w0 w R s F) (H:qV n s) (I:n<=1000) {a:Int} (G:s.tick=(s',a)):
  Calls prog 34 #[γ R] w λe w'=>e= .returned (ι a)/\RmR w0 w' R s' F/\qw F w w':=by
 obtain⟨k,rfl,h⟩:=h;refine(Hn h H I).mono ?_;rintro e w' ⟨rfl,d,t⟩;rw[G] at d ⊢;exact⟨rfl,⟨k,rfl,d⟩,t⟩
theorem LC (h:RmR w0 w R s F) (b:List Int) (v:Value) (N:SlI .u8 w v b) (G:Byt b) (J:b.length<=1000000) (I:0<=s.cnt.lost/\s.cnt.lost<=1000000000) {a:Int} (H:s.arrive b=(s',a)):
  Calls prog 33 #[γ R,v] w λe w'=>e= .returned (ι a)/\RmR w0 w' R s' F/\qw F w w':=by
 obtain⟨k,rfl,h⟩:=h;refine(Gf h b v N G J I).mono ?_;rintro e w' ⟨rfl,d,t⟩;rw[H] at d ⊢;exact⟨rfl,⟨k,rfl,d⟩,t⟩
theorem LS (h:RmR w0 w R s F) {a:Int} (G:s.shut=(s',a)):
  Calls prog 28 #[γ R] w λe w'=>e= .returned (ι a)/\RmR w0 w' R s' F/\qw F w w':=by
 obtain⟨k,rfl,h⟩:=h;refine(Ho h).mono ?_;rintro e w' ⟨rfl,d,t⟩;rw[G] at d ⊢;exact⟨rfl,⟨k,rfl,d⟩,t⟩
theorem F7 (h:RmR w0 w R s F) (H:qV n s) (I:n<=1000) (w1 w2:Int) (acc:Bool) {a:Bool} (G:s.pick (w1,w2) acc=(s',a)):
  Calls prog 31 #[γ R,θ #[ι w1,ι w2],acc] w λe w'=>e= .returned (μ a)/\RmR w0 w' R s' F/\qw F w w':=by
 obtain⟨k,rfl,h⟩:=h;refine(Hq h H τ w1 w2 acc).mono ?_;rintro e w' ⟨rfl,d,t⟩;rw[G] at d ⊢;exact⟨rfl,⟨k,rfl,d⟩,t⟩
theorem Yn (h:RmR w0 w R s F) {a b:Int} (d:(s.queue.length:Int)=a) (G:s.held=b):
  Calls prog 23 #[γ R] w λe w'=>e= .returned (.tuple #[ι a,ι b])/\qa w w':=by
 obtain⟨k,rfl,T,vp,H,h⟩:=h;rw[<-d,<-G];exact Lb h
theorem Ha (h:RmR w0 w R s F) (x:Int) {l:LnS} (d:s.ln x=l) {t:Bool} (G:(qh s.lanes x).isSome=t):Calls prog 24 #[γ R,ι x] w λe w'=>
  e= .returned (.tuple #[θ #[ι l.cur,ι l.tgt],θ #[ι l.A.length,ι l.B.length,ι l.C.length],l.gone,t])/\qa w w':=by
 obtain⟨k,rfl,T,vp,H,h⟩:=h;rw[<-d,<-G];exact MC h x
theorem KY (h:RmR w0 w R s F) (G:s.ret.length<=1000000) {a:Bool} (d:s.ended=a):Calls prog 32 #[γ R] w λe w'=>e= .returned (μ a)/\qa w w':=by
 obtain⟨k,rfl,T,vp,H,h⟩:=h;rw[<-d];exact Li h G
theorem MO (h:RmR w0 w R s F) (x:Int) (d:(s.ln x).W.length<=1000000):Calls prog 14 #[γ R,ι x] w λe w'=>(∃v,e= .returned v/\je 2 (ROn w.heap.size) (λb=>b<w.heap.size) w' w.heap.size 56 v (s.ln x).W)/\qa w w':=by
 obtain⟨k,rfl,T,vp,G,h⟩:=h;exact CA h x d
end
theorem qw.cell {F:List Nat} {w w':World} (h:qw F w w') {b:Nat} (d:b∈F) (i:Nat):w'.cell? ⟨b,i,none⟩=w.cell? ⟨b,i,none⟩:=by
 unfold World.cell?;simp only;rw[h.2 b d]
theorem SlI.addr {w:World} {k:IntKind} {G:Option Addr} {n cap:Nat} {l:List Int} (h:SlI k w (δ G n cap) l) (J:0<l.length): ∃b d,G=some ⟨b,d,none⟩/\b<w.heap.size/\n=l.length:=by
 obtain⟨O,N,e,_,H,_⟩:=h;injection e with e1 e2 e3
 subst e1 e2 e3;obtain⟨b,d,rfl,I,_⟩:=H 0 J;exact⟨b,d,rfl,I,rfl⟩
section
variable {w0 w w':World} {R:Nat} {s s':RmS} {F F' Fn:List Nat} {n:Nat}
theorem HV (h:RmR w0 w R s F) (U:qV n s) (aa:n<=1000) (a:A22) (G:Option Addr) (d:Nat) (ad:SlI .u8 w (δ G a.b.length d) a.b) (O:Byt a.b) (Y:a.b.length<=400) (ac:U16 a.seq) (ab:U32 a.own):
  Calls prog 12 #[γ R,θ #[ι a.act,ι a.sub,ι a.pub,ι a.layer,δ G a.b.length d,ι a.w.1,ι a.w.2,a.acc,ω a.own,ω a.stamp,φ a.seq,ω a.s0,ω a.s1,ω a.s2]] w λe w'=>
   e= .returned (.tuple #[ι (doR s a).2.1,μ (doR s a).2.2])/\RmR w0 w' R (doR s a).1 F/\qw F w w':=by
 obtain⟨k,rfl,h⟩:=h;exact(RDo h U aa a G d ad O Y ac ab).mono λe w' ⟨k',H,I,J,N⟩=>⟨I,⟨k',H,J⟩,N⟩
theorem F8 (h:RmR w0 w R s F) (H:qV n s) (J:n<=1000) (x:Int) {p:Nat} (I:(jz s.book x).length=p): ∃B,w.cell? ⟨R,0,none⟩=some (π (some ⟨B,0,none⟩))/\
  Calls prog 25 #[θ #[γ B],ι x] w λe w'=>(∃o cap,e= .returned (δ o p cap))/\qa w w':=by
 obtain⟨B,b,d,G⟩:=h.bk;refine⟨B,d,(CK G x (by have:=H.num.book;omega)).mono ?_⟩;rintro e w' ⟨⟨v,rfl,o,cap,rfl,_⟩,m⟩;rw[I];exact⟨⟨o,cap,rfl⟩,m⟩
end
theorem RmR.rkeys {d w:World} {R:Nat} {s:RmS} {F:List Nat} (h:RmR d w R s F):(s.ret.map Prod.fst).Nodup:=by
 obtain⟨k,rfl,T,vp,G,h⟩:=h;exact h.retm.keys
theorem Wx (s:RmS):s.workers.length<=20:=by
 have h:=Wy s.there subIds;exact Nat.le_trans h ζ
theorem Eo {s:RmS} (d:wN s) (G:(s.ret.map Prod.fst).Nodup):s.ret.length<=1000000:=by
 have h:=yr G (m:=s.workers) (λx I=>by
  obtain⟨v,H⟩:=QB I
  exact(d.vals x v H).2)
 have J:=Wx s;rw[List.length_map] at h;omega
theorem Pw (a b c x y z:Int) (w:World):(binOp .neq 104 (θ #[ι a,ι b,ι c]) (θ #[ι x,ι y,ι z])).run prog w= .ok (μ (!decide ([a,b,c]=[x,y,z]))) w:=by
 obtain⟨i,hi⟩: ∃i,prog.info? 3=some i:=⟨_,rfl⟩;exact Fy (la:=[a,b,c]) (lb:=[x,y,z]) underlying104 hi ξ underlying3 isAgg3 rfl rfl w
end Go.Proofs.YtlmllmonabafjaaGreatDoor
