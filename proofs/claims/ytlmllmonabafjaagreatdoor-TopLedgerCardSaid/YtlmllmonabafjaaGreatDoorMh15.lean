/- x -/
import Derived.Test.YtlmllmonabafjaaGreatDoorMh14
import Derived.Laws.IdiomStrings
import Derived.Defers
import Derived.Recover
import Derived.Laws.Concat
namespace Go.Proofs.YtlmllmonabafjaaGreatDoor
open Option renaming some->ϊ,none->ϋ
open Bool renaming true->ό,false->ύ
open Go.Value renaming bool->μ,slice->δ,pointer->π,agg->θ
open Go.IntKind renaming i64->ι,u8->υ,u16->φ,u32->ω,i32->χ,u64->ψ
open _root_.Go.Proofs.Tryz
set_option linter.all false
set_option maxHeartbeats 8000000
open Go.RowKit
set_option maxRecDepth 100000
set_option maxRecDepth 1000000
variable {w w' w0 w1 J:World} {F:List Nat} {s s':RmS} {n R b base pb cap W B q i:Nat} {sf sf':Og->Option Int} {L L':List (Int->Int)} {T:Nat->Tg} {v vp vr:Value} {S:Nat->Prop} {k:RmK} {cs:List Value} {a:Int} {H:Int->Int} {l:List A22} {xc:Array Value} {f:Nat->Int} {e:TypeId} {t:TS}
def zw.wide {J H:Nat->Prop} {L:Nat} {l:LnS} (h:zw J w L l) (I: ∀b,J b->H b) (N: ∀b,H b->b<w.heap.size):zw H w L l:=by
 obtain⟨k,vo,e,x⟩:=h;have M: ∀b,lnE H k vo b->lnE J k vo b:=λb d=>d.elim (λq=>ϑ λn=>q (I b n)) ϕ
 have a:jt (λ_=>False) w w:=jt.refl _ w
 exact⟨k,vo,e,⟨N,λb d=>I b (x.muts b d),x.dist,x.blk,x.r1.step a (λq=>q) (λq=>q) (λb q=>q.elim) (λb d=>ϑ (M b d)),x.r2.step a (λq=>q) (λq=>q) (λb q=>q.elim) (λb d=>ϑ (M b d)),x.r3.step a (λq=>q) (λq=>q) (λb q=>q.elim) (λb d=>ϑ (M b d)),
  ⟨by
   obtain⟨⟨xs,o,r⟩,_⟩:=x.o
   exact⟨xs,o,λi hi=>(r i hi).other λb d=>ϑ (d.elim (λq=>ϑ λn=>q (I b n)) ϕ)⟩,λb d q=>x.o.apart b d (λn=>q (I b n))⟩,x.ok⟩⟩
def RmX.laneNew (h:RmX T w0 w k vp vr s F) {x:Int} {l:LnS} {p:Nat} (m:ql w w1) (U:zw (λb=>w.heap.size<=b/\b<w1.heap.size) w1 p l)
  (ae:jk w' k.ML (Value.int .i64) gj (qx k.LA x p)) (a:jt (λb=>b=k.ML) w1 w'):qI w0 w' {k with LA:=qx k.LA x p} {s with lanes:=qx s.lanes x l} F/\qw F w w':=by
 obtain⟨N,Y⟩:=h.all .lns;have J:=h.fresh;have ag:=Y.lt;have M:jt (λb=>T b= .lane x∨T b= .lns) w w':=(jt.of_more m).trans (a.mono λb d=>ϕ (by rw[d];exact N));have aa:w1.heap.size<=w'.heap.size:=a.size;obtain⟨y,z⟩:=h.own2 (t1:= .lane x) (t2:= .lns) (k':={k with LA:=qx k.LA x p}) (vp':=vp) (vr':=vr) (s':={s with lanes:=qx s.lanes x l}) ⟨η,η⟩ ⟨η,η⟩ M
  ⟨λaj ai H I=>by
   simp only at H I;rw[xD] at H I;injection H with H
   injection I with I
   subst H I;refine(U.away a (λb d ad=>by rw[d] at ad;omega)).wide (λb d=>(jd J η b).2 (ϕ ⟨rfl,d.1,ϗ d.2 aa⟩)) (λb d=> ?_);rcases(jd J η b).1 d with q | q
   ·rcases X3 b w.heap.size with c | c
    ·exact ϗ c M.size
    ·rw[J b c] at q;cases q
   ·exact q.2.2,by simp only[xD];rfl⟩
  ⟨(jF J η η _).2 N,ae⟩
  (λu ab ac ah y=>by
   cases u<;>first | exact y | exact ϩ rfl ac | skip
   rename_i af;have O:af≠x:=λe=>ab (by rw[e])
   unfold RmK.Holds at y ⊢;simp only;rw[vF _ _ O,vF _ _ O]
   exact y)
 exact⟨⟨_,_,_,y⟩,z⟩
def RmX.strNew (h:RmX T w0 w k vp vr s F) {o:Og} {t:zu} {p d:Nat} (m:ql w w1) (ae:w.heap.size<=p/\p<w1.heap.size) (ac:w.heap.size<=d/\d<w1.heap.size) (O:p≠d)
  (blk:w1.heap[p]? =ϊ (.cells (gK d t) 176 (0,0))) (buf:xZ w1 d v t.buf) (aj:JOK t.buf) (ab:v.ownBlock=ϋ)
  (ai:jk w' k.MS kO gj (qx k.SA o p)) (a:jt (λb=>b=k.MS) w1 w'):qI w0 w' {k with SA:=qx k.SA o p} {s with strs:=qx s.strs o t} F/\qw F w w':=by
 obtain⟨aa,ad⟩:=h.all .sts;have N:=h.fresh;have al:=ad.lt;have Y:jt (λb=>T b= .str o∨T b= .sts) w w':=(jt.of_more m).trans (a.mono λb H=>ϕ (by rw[H];exact aa));have af:w1.heap.size<=w'.heap.size:=a.size;have U: ∀b,w.heap.size<=b/\b<w1.heap.size->jZ T (.str o) w w' b= .str o:=λb H=>(jd N η b).2 (ϕ ⟨rfl,H.1,ϗ H.2 af⟩)
 obtain⟨y,z⟩:=h.own2 (t1:= .str o) (t2:= .sts) (k':={k with SA:=qx k.SA o p}) (vp':=vp) (vr':=vr) (s':={s with strs:=qx s.strs o t}) ⟨η,η⟩ ⟨η,η⟩ Y
  ⟨λan am J M=>by
   simp only at J M;rw[xD] at J M;injection J with J
   injection M with M
   subst J M;refine⟨d,v,a.blk blk τ,⟨a.blk buf.blk τ,buf.row.away a (λg I=>by rw[ab] at I;cases I)⟩,aj,λb H=> ?_,U _ ae,U _ ac,O,λg I=>by rw[ab] at I;cases I⟩;rcases(jd N η b).1 H with q | q
   ·rcases X3 b w.heap.size with c | c
    ·exact ϗ c Y.size
    ·rw[N b c] at q;cases q
   ·exact q.2.2,by simp only[xD];rfl⟩
  ⟨(jF N η η _).2 aa,ai⟩
  (λu ag ah U y=>by
   cases u<;>first | exact y | exact ϩ rfl ah | skip
   rename_i ak;have O:ak≠o:=λe=>ag (by rw[e])
   unfold RmK.Holds at y ⊢;simp only;rw[vF _ _ O,vF _ _ O]
   exact y)
 exact⟨⟨_,_,_,y⟩,z⟩
def Pz {x d:Int} (h: ¬(yI t x d).2=0):(yI t x d).1=t:=by
 unfold yI at h ⊢;split
 ·rename_i H;rw[ϐ H] at h;split
  ·rfl
  ·rename_i I;rw[ώ I] at h;exact ϩ rfl h
 ·rfl
def Hr (aF:qI w0 w k s F) (an:xY s.cfg=ό) (x d sq st:Int) (aq:U16 sq) (ap:U32 d):
  Calls prog 35 #[γ k.R,ι x,ω d,φ sq,ω st] w λe w'=> ∃k',k'.R=k.R/\e= .returned (ι (s.join x d sq st).2)/\qI w0 w' k' (s.join x d sq st).1 F/\qw F w w':=by
 obtain⟨T,vp,aL,h⟩:=aF;have ab:=κ h;have N:=κ (kF an);have aD:=β7 h.blk;have aJ:=β11 h.blk;obtain⟨aE,ah⟩:=ν (s.closed);rw[ah] at aD;have ad:=κ ah;clear ah h an;cases aE with
 | true=>
  have O:Hid (s.join x d sq st=(s,7)):=κ (by unfold RmS.join;rw[ϐ ad.o]);rw[O.o]
  go_enter func35,ntmps35
  go_wp2;go_ret;exact⟨k,rfl,rfl,ab.o.at,qw.refl _ _⟩
 | false=>
  have aa:=κ (Ld ab.o.tab x d);obtain⟨af,I⟩:=ν ((yI s.tab x d).2);obtain⟨aG,ac⟩:=ν ((yI s.tab x d).1);by_cases e0:af=0
  ·subst e0;have O:Hid (s.join x d sq st=({s with tab:=aG,lanes:=qx s.lanes x (Vd s.cfg.room.toNat s.cfg.most d sq st)},0)):=κ (by unfold RmS.join;rw[ώ (by rw[ad.o];decide),ϐ I,ac]);rw[I,ac] at aa;rw[O.o];clear I ac;have aA:=κ (λw'=>Iu s.cfg.room s.cfg.most d sq st s.cfg.room.toNat (by have:=N.o.1;omega) (by have:=N.o.1;omega) (by have:=N.o.1;omega) N.o.2.2.2.1 N.o.2.2.2.2 aq ap w');clear aq ap
   go_enter func35,ntmps35
   go_upto_region 6 with (go_at_call 87;(go_call aa.o as e w1 ⟨rfl,Y,U⟩;have M:=κ (KK ab.o Y U);clear Y U))
   obtain⟨aH,aK,aM,av⟩:=M.o.1;have H:=κ av;clear av;have aj: ¬k.R=k.ML:=λe=>by have q:=(H.o.all .room).1;rw[e,(H.o.all .lns).1] at q;cases q
   have ay: ∀y:qz (λb=>b=k.ML) w1,y.w'.cell? ⟨k.R,12,ϋ⟩=ϊ (.map (ϊ k.ML)):=λy=>qm (y.h.blk H.o.blk aj) 12 rfl
   have ax: ∀y:qz (λb=>b=k.ML) w1,y.w'.cell? ⟨k.R,1,ϋ⟩=ϊ (ι s.cfg.room):=λy=>qm (y.h.blk H.o.blk aj) 1 rfl
   have az: ∀y:qz (λb=>b=k.ML) w1,y.w'.cell? ⟨k.R,6,ϋ⟩=ϊ (ι s.cfg.most):=λy=>qm (y.h.blk H.o.blk aj) 6 rfl
   refine QN (λb=>b=k.ML) w1 24 24 [19,23] ?_
   refine ND ?_
   (refine Ql ?_;intro K J)
   go_call aA.o _ as e w5 ⟨L,rfl,au,ai⟩;have ae:Hid (ql w1 w5):=κ ((ql.drewN w1 1).trans ai);have am:=κ (H.o.on (ql.drewN w1 1));have al:=κ ai;have aB:=κ au;clear ai au;refine⟨_,rfl,qi (jt.of_more ae.o),J _ _ ?_⟩;clear J K
   iterate 3 (refine qE rfl rfl (qi (jt.of_more ae.o)) ?_;intro K J;go_big_quiet_op;go_big_quiet_on)
   clear ay ax az;obtain⟨w9,ar,ao,ag,_⟩:=(am.o.lnm.more al.o).update kE underlying90 x L;have ak:=κ (am.o.laneNew al.o aB.o ao ag);have aC:=κ (H.o.at.stay (ql.drewN w1 1));unfold gj at ar;have aw:Hid (jt (λb=>b=k.ML) w1 w9):=κ ((jt.of_more ae.o).trans ag)
   (refine Ql ?_;intro K J)
   refine⟨qi aw.o,J _ _ ?_⟩;clear J K ao ag ar;refine qA ?_;go_wp2;go_ret;exact⟨{k with LA:=qx k.LA x L},rfl,rfl,ak.o.1,M.o.2.trans (aC.o.trans ak.o.2)⟩
  ·have aI:(af != 0)=ό:=by simp[e0]
   have O:Hid (s.join x d sq st=(s,af)):=κ (by unfold RmS.join;rw[ώ (by rw[ad.o];decide),I,ώ e0]);rw[Pz (by rw[I];exact e0),I] at aa;rw[O.o];clear I ac e0
   go_enter func35,ntmps35
   go_wp2_with (go_at_call 87;(go_call aa.o as e w1 ⟨rfl,Y,U⟩;have M:=κ (KK ab.o Y U);clear Y U))
   go_ret;exact⟨k,rfl,rfl,M.o.1,M.o.2⟩
def Hu (c:CfR) (p:Int) (m:List (Og×zu)):Nat->List (Og×zu)
 | 0=>m
 | i+1=>qx (Hu c p m i) (p,(i:Int)) (uc c)
def Bn {p s0 s1 s2:Int} (h: ¬(vA t p s0 s1 s2).2=0):(vA t p s0 s1 s2).1=t:=by
 unfold vA at h ⊢;split
 ·rename_i d;rw[ϐ d] at h;split
  ·rfl
  ·rename_i H;rw[ώ H] at h;split
   ·rfl
   ·rename_i I;rw[ώ I] at h;split
    ·rfl
    ·rename_i J;rw[ώ J] at h;exact ϩ rfl h
 ·rfl
def Mu (h:RmX T w0 w k vp vr s F) (b:jq w' k.tb k.ta k.tc k.td t) (a:jt (λx=>x=k.ta∨x=k.tc) w w'):qI w0 w' k {s with tab:=t} F/\qw F w w':=
 h.table b (a.mono λ_ e=>e.elim ϑ λq=>ϕ (ϑ q))
def V0 (bh:qI w0 w k s F) (aK:xY s.cfg=ό) (p s0 s1 s2:Int):
  Calls prog 45 #[γ k.R,ι p,θ #[ω s0,ω s1,ω s2]] w λe w'=> ∃k',k'.R=k.R/\e= .returned (ι (s.publish p s0 s1 s2).2)/\qI w0 w' k' (s.publish p s0 s1 s2).1 F/\qw F w w':=by
 obtain⟨T,vp,bo,h⟩:=bh;obtain⟨W1,M⟩:=ν (w.alloc (.cells #[ω s0,ω s1,ω s2] 40));have aD:Hid (ql w W1):=κ (by rw[<-M];exact ql.alloc _ _);have aU:Hid (W1.heap[w.heap.size]? =ϊ (.cells #[ω s0,ω s1,ω s2] 40 (0,0))):=κ (by rw[<-M];exact qj w _);have d:=κ (h.on aD.o);have aF:=κ (h.at.stay aD.o);have az:=κ (kF aK);have bf:=β7 d.o.blk;obtain⟨bg,am⟩:=ν (s.closed);rw[am] at bf;have ad:=κ am;clear am aK;cases bg with
 | true=>
  have H:Hid (s.publish p s0 s1 s2=(s,7)):=κ (by unfold RmS.publish;rw[ϐ ad.o]);rw[H.o];clear h
  go_enter func45,ntmps45
  go_upto_region 1 with fail
  (try rw[M])
  clear M;go_wp2;go_ret;exact⟨k,rfl,rfl,d.o.at,aF.o⟩
 | false=>
  have af:=κ (Dw (d.o.tab.more (ql.drewN W1 1)) p s0 s1 s2);unfold kJ at af;obtain⟨aj,an⟩:=ν ((vA s.tab p s0 s1 s2).2);obtain⟨ar,ap⟩:=ν ((vA s.tab p s0 s1 s2).1);rw[an,ap] at af;have aS: ¬(k.R=k.ta∨k.R=k.tc):=by
   obtain⟨_,O,U,_⟩:=d.o.all .table;rintro(e | e)
   ·rw[<-e,(d.o.all .room).1] at O;cases O
   ·rw[<-e,(d.o.all .room).1] at U;cases U
  have aR: ¬(w.heap.size=k.ta∨w.heap.size=k.tc):=by
   obtain⟨_,O,U,_⟩:=h.all .table;have aT:=h.fresh w.heap.size (ϔ _);rintro(e | e)
   ·rw[<-e,aT] at O;cases O
   ·rw[<-e,aT] at U;cases U
  have aX:=λ(x:qz (λb=>b=k.ta∨b=k.tc) W1)=>β11 (x.h.blk d.o.blk aS)
  have aa:=λ(x:qz (λb=>b=k.ta∨b=k.tc) W1)=>x.h.blk aU.o aR
  have ba:=λx=>β0 (aa x);have bb:=λx=>β1 (aa x);have bc:=λx=>β2 (aa x);clear aa
  clear h aS aR;have ae:=κ an;have aB:=κ ap;clear an ap
  go_enter func45,ntmps45
  go_upto_region 1 with fail
  (try rw[M])
  clear M
  go_upto_region 3 with fail
  refine QN (λb=>b=k.ta∨b=k.tc) W1 8 8 [6] ?_
  refine Qs6 ?_
  (refine Ql ?_;intro K I)
  (with_reducible refine af.o.mono ?_)
  rintro e w2 ⟨rfl,aH,ai⟩;have av:Hid (jt (λb=>b=k.ta∨b=k.tc) W1 w2):=κ (((jt.refl _ W1).drewN 1).trans ai);have ac:=κ (Mu (d.o.on (ql.drewN W1 1)) aH ai);have aG:=κ (aF.o.trans ((d.o.at.stay (ql.drewN W1 1)).trans ac.o.2));clear aH ai;refine⟨_,rfl,qi av.o,I _ _ ?_⟩;clear I K aX ba bb bc
  iterate 1 (refine qE rfl rfl (qi av.o) ?_;intro K I;go_big_quiet_op;go_big_quiet_on)
  refine qA ?_;by_cases e0:aj=0
  ·subst e0;have H:Hid (s.publish p s0 s1 s2=({s with tab:=ar,strs:=Hu s.cfg p s.strs 3},0)):=κ (by unfold RmS.publish;rw[ώ (by rw[ad.o];decide),ϐ ae.o,aB.o];rfl);go_wp2
   go_loopw [25] (λaq wr=> ∃i:Nat,i<=3/\aq= ι i/\(∃J:RmK,J.R=k.R/\qI w0 wr J {s with tab:=ar,strs:=Hu s.cfg p s.strs i} F)/\qw F w2 wr) (λaq _=>3-(intOf aq).toNat)
   case atStart=>exact⟨0,τ,rfl,⟨k,rfl,ac.o.1⟩,qw.refl _ _⟩
   case round=>
    obtain⟨i,hi,rfl,⟨J,aL,aN⟩,aO⟩:=hrel;have aA:=κ aN;have aC:=κ aO;have Y:=κ aL;clear aN aO aL;by_cases hlt:i<3
    ·have bi:(i:Int)<3:=by omega
     obtain⟨bk,bn,bp,au⟩:=aA.o;have ah:=κ au;have ak:=au.blk;rw[Y.o] at ak;have ax:=κ ak;have aY: ∀y:qt wr,y.w'.cell? ⟨k.R,2,ϋ⟩=ϊ (ι s.cfg.hold):=λy=>qm (qq y.h ax.o) 2 rfl
     have aZ: ∀y:qt wr,y.w'.cell? ⟨k.R,3,ϋ⟩=ϊ (ι s.cfg.wait):=λy=>qm (qq y.h ax.o) 3 rfl
     have bd:=κ (YM s.cfg.hold s.cfg.wait (wr.drewN 1) az.o.2.1);clear au ak
     go_upto_region 9 with fail
     refine Qn wr 16 16 [10] ?_
     refine NC ?_
     (refine Ql ?_;intro K I)
     (with_reducible refine bd.o.mono ?_)
     rintro e w5 ⟨rfl,aI,aQ,aP⟩;have ab:Hid (ql wr w5):=κ ((ql.drewN wr 1).trans aQ);have aV:Hid (xZ w5 wr.heap.size (δ ϋ 0 0) (CU s.cfg.hold s.cfg.wait)):=κ aI;have ag:Hid (wr.heap.size<w5.heap.size):=κ aP;clear aI aQ aP;refine⟨_,rfl,qk ab.o,I _ _ ?_⟩;clear I K aY aZ
     iterate 5 (refine qE rfl rfl (qk ab.o) ?_;intro K I;go_big_quiet_op;go_big_quiet_on)
     refine qA ?_;obtain⟨W6,N⟩:=ν (w5.alloc (.cells #[γ wr.heap.size,ύ,ι 0,ύ,ύ,ι 0,ι 0,ύ] 176));have aE:Hid (ql wr W6):=κ (by rw[<-N];exact ab.o.al _);have aw:Hid (W6.heap[w5.heap.size]? =ϊ (.cells (gK wr.heap.size (uc s.cfg)) 176 (0,0))):=κ (by rw[<-N];exact qj w5 _);have aW:Hid (xZ W6 wr.heap.size (δ ϋ 0 0) (uc s.cfg).buf):=κ (by rw[<-N];exact aV.o.on X8);obtain⟨w9,bj,aM,aJ,_⟩:=(ah.o.stm.more aE.o).update Yr underlying91 (p,(i:Int)) w5.heap.size;have ay:=κ (ah.o.strNew (t:=uc s.cfg) aE.o ⟨S1 ag.o,qn aw.o⟩ ⟨ϔ _,ϗ ag.o (by rw[<-N];exact X8.size)⟩ (λe=>by have:=ag.o;omega) aw.o aW.o (EJ az.o.2.1) rfl aM aJ);unfold gj kO at bj;have ao:=ah.o.blk;rw[Y.o] at ao;have bm:w5.cell? ⟨k.R,13,ϋ⟩=ϊ (.map (ϊ J.MS)):=qm (qq ab.o ao) 13 rfl;clear aM aJ ao
     go_wp2_with ((try rw[N]);fail)
     go_roundw
     case rel=>exact⟨i+1,τ,by go_num,⟨{J with SA:=qx J.SA (p,(i:Int)) w5.heap.size},Y.o,ay.o.1⟩,aC.o.trans ay.o.2⟩
     case measure=>simp[intOf];omega
    ·obtain rfl:i=3:=by omega
     have bi: ¬((3:Nat):Int)<3:=by omega
     go_wp2;go_ret;exact⟨J,Y.o,by rw[H.o];rfl,by rw[H.o];exact aA.o,aG.o.trans aC.o⟩
  ·have bl:(aj != 0)=ό:=by simp[e0]
   have H:Hid (s.publish p s0 s1 s2=(s,aj)):=κ (by unfold RmS.publish;rw[ώ (by rw[ad.o];decide),ae.o,ώ e0]);have be:Hid (ar=s.tab):=κ (by rw[<-aB.o];exact Bn (by rw[ae.o];exact e0));clear e0;go_wp2;go_ret;exact⟨k,rfl,by rw[H.o];rfl,by rw[H.o];have h:=ac.o.1;rw[be.o] at h;exact h,aG.o⟩
def FE (h:RmX T w0 w k vp vr s F) (aV: ∀a∈s.pks,uj a.pk) (bz:s.pks.length<=1000000) (hi:i<s.pks.length) {a:AcS} (aF:s.pks[i]=a):
  Calls prog 15 #[γ k.R,ι (i:Int)] w λe w'=> ∃os ac ab ad ke Y,e= .returned (.tuple #[(Γi a.o.1 a.o.2 a.num a.pk os ad ac ke ab Y),ό])/\PkS w' (δ os a.pk.ss.length ad) (δ ac a.pk.ex.length ke) (δ ab a.pk.pl.length Y) a.pk/\ql w w':=by
 obtain⟨g,cap,os,ac,ab,ad,ke,Y,rfl,_,bx,aG,aH⟩:=h.pkRow hi;rw[aF] at aG aH;have an:=κ aH.pk;have af:=κ (aV a (by rw[<-aF];exact ϡ hi));obtain⟨W2,aq⟩:=ν (w.alloc (.cells #[ι 0,ι 0,ι 0,ύ,υ 0,φ 0,ω 0,ω 0,(),ύ,φ 0,(),()] 65));have ao:Hid (ql w W2):=κ (by rw[<-aq];exact ql.alloc _ _);have aJ:Hid (W2.heap[w.heap.size]? =ϊ (.cells #[ι 0,ι 0,ι 0,ύ,υ 0,φ 0,ω 0,ω 0,(),ύ,φ 0,(),()] 65 (0,0))):=κ (by rw[<-aq];exact qj w _);have ba:Hid (W2.rangeAt g (i* 13) (Γi a.o.1 a.o.2 a.num a.pk os ad ac ke ab Y)):=κ (λj v bA=>by rw[ao.o.cells _ _ bx];exact aG j v bA);have bs:=β14 (qq ao.o h.blk);have bG:(i:Int)<(s.pks.length:Int):=by omega
 clear aG aH aV aF h bz
 go_enter func15,ntmps15
 go_upto_region 1 with fail
 (try rw[aq])
 clear aq
 go_upto_region 4 with (refine wpList_load_mid rfl 65 (.tmp 24) rfl g (i* 13) rfl (Γi a.o.1 a.o.2 a.num a.pk os ad ac ke ab Y) _ ba.o underlying65 rfl ξ ?_)
 obtain⟨ag,ar⟩:=ν (W2.alloc (.cells (Γi a.o.1 a.o.2 a.num a.pk os ad ac ke ab Y) 65));have aR:Hid (ql W2 ag):=κ (by rw[<-ar];exact ql.alloc _ _);have aw:Hid (ag.heap[W2.heap.size]? =ϊ (.cells (Γi a.o.1 a.o.2 a.num a.pk os ad ac ke ab Y) 65 (0,0))):=κ (by rw[<-ar];exact qj W2 _)
 (try rw[ar])
 clear ar bs;have ae:Hid (w.heap.size<W2.heap.size):=κ (qn aJ.o);have aE:=κ (an.o.keep (ao.o.trans aR.o));have aA:Hid (W2.heap.size<ag.heap.size):=κ (qn aw.o);have bt:=β8 aw.o;have aN:=κ (Ad _ a.pk.ss ag aE.o.s af.o.s)
 go_upto_region 5 with (go_at_call 49;(go_call aN.o as e w1 ⟨⟨v0,rfl,J⟩,I⟩;have be:Hid (ql W2 w1):=κ (aR.o.trans I);have bh:=κ (SlI.of_owns J (by have:=af.o.s;omega));have ap:Hid (∀q,v0.ownBlock=ϊ q->W2.heap.size<q):=κ (λq d=>ϗ aA.o (jS J d));have aB:=κ I;obtain⟨N,M,rfl⟩:=xl J;have ax:=κ (qq I aw.o);have bD:=β8 ax.o;have bw:=yw ax.o 8;clear J I))
 obtain⟨ah,H⟩: ∃W',w1.setCell ⟨W2.heap.size,8,ϋ⟩ (δ N a.pk.ss.length M)=W':=⟨_,rfl⟩;have aL:Hid (ah.heap[W2.heap.size]? =ϊ (.cells (Γi a.o.1 a.o.2 a.num a.pk N M ac ke ab Y) 65 (0,0))):=κ (by rw[<-H];exact qB (qp ax.o 8 (δ N a.pk.ss.length M)) rfl);have bc:Hid (ql W2 ah):=κ (by rw[<-H];exact be.o.st (ϔ _) _);have al:Hid (jt (λb=>b=W2.heap.size) w1 ah):=κ (by rw[<-H];exact jt.set (S:=λb=>b=W2.heap.size) (jt.refl _ _) (p:=⟨W2.heap.size,8,ϋ⟩) rfl _);have bk:=κ (bh.o.off2 (λ_ q d e=>by have:=ap.o q d;omega) al.o);have aX:=κ ((aE.o.e.keep aB.o).off2 (λak b aj e=>by have:=an.o.e.old ak aj;have:=ae.o;omega) al.o);have aY:=κ ((aE.o.l.keep aB.o).off2 (λak b aj e=>by have:=an.o.l.old ak aj;have:=ae.o;omega) al.o);have aQ:Hid (ag.heap.size<=ah.heap.size):=κ (Ϙ (ϔ _) (Ϙ aB.o.size al.o.size))
 (try rw[H])
 clear H bt bD bw aN;have bq:=β11 aL.o;have aO:=κ (wQ _ a.pk.ex ah aX.o af.o.e)
 go_upto_region 6 with (go_at_call 50;(go_call aO.o as e w2 ⟨⟨bE,rfl,J⟩,I⟩;have bf:Hid (ql W2 w2):=κ (bc.o.trans I);have bi:=κ (SlI.of_owns J (by have:=af.o.e;omega));have aD:Hid (∀q,bE.ownBlock=ϊ q->W2.heap.size<q):=κ (λq d=>ϗ (ϗ aA.o aQ.o) (jS J d));have aC:=κ I;obtain⟨o2,O,rfl⟩:=xl J;have ay:=κ (qq I aL.o);have bB:=β11 ay.o;have bu:=yw ay.o 11;clear J I))
 obtain⟨ai,H⟩: ∃W',w2.setCell ⟨W2.heap.size,11,ϋ⟩ (δ o2 a.pk.ex.length O)=W':=⟨_,rfl⟩;have aM:Hid (ai.heap[W2.heap.size]? =ϊ (.cells (Γi a.o.1 a.o.2 a.num a.pk N M o2 O ab Y) 65 (0,0))):=κ (by rw[<-H];exact qB (qp ay.o 11 (δ o2 a.pk.ex.length O)) rfl);have bd:Hid (ql W2 ai):=κ (by rw[<-H];exact bf.o.st (ϔ _) _);have am:Hid (jt (λb=>b=W2.heap.size) w2 ai):=κ (by rw[<-H];exact jt.set (S:=λb=>b=W2.heap.size) (jt.refl _ _) (p:=⟨W2.heap.size,11,ϋ⟩) rfl _);have bn:=κ (bi.o.off2 (λ_ q d e=>by have:=aD.o q d;omega) am.o);have bl:=κ ((bk.o.keep aC.o).off2 (λ_ q d e=>by have:=ap.o q d;omega) am.o);have aZ:=κ ((aY.o.keep aC.o).off2 (λak b aj e=>by have:=an.o.l.old ak aj;have:=ae.o;omega) am.o);have bb:Hid (ag.heap.size<=ai.heap.size):=κ (Ϙ aQ.o (Ϙ aC.o.size am.o.size))
 (try rw[H])
 clear H bq bB bu aO;have br:=β12 aM.o;have aP:=κ (wQ _ a.pk.pl ai aZ.o af.o.l)
 go_upto_region 7 with (go_at_call 50;(go_call aP.o as e aI ⟨⟨bF,rfl,J⟩,I⟩;have bg:Hid (ql W2 aI):=κ (bd.o.trans I);have bj:=κ (SlI.of_owns J (by have:=af.o.l;omega));have aU:Hid (∀q,bF.ownBlock=ϊ q->W2.heap.size<q):=κ (λq d=>ϗ (ϗ aA.o bb.o) (jS J d));have aT:=κ I;obtain⟨aa,U,rfl⟩:=xl J;have az:=κ (qq I aM.o);have bC:=β12 az.o;have bv:=yw az.o 12;clear J I))
 obtain⟨W6,H⟩: ∃W',aI.setCell ⟨W2.heap.size,12,ϋ⟩ (δ aa a.pk.pl.length U)=W':=⟨_,rfl⟩;have aW:Hid (W6.heap[W2.heap.size]? =ϊ (.cells (Γi a.o.1 a.o.2 a.num a.pk N M o2 O aa U) 65 (0,0))):=κ (by rw[<-H];exact qB (qp az.o 12 (δ aa a.pk.pl.length U)) rfl);have aS:Hid (ql W2 W6):=κ (by rw[<-H];exact bg.o.st (ϔ _) _);have au:Hid (jt (λb=>b=W2.heap.size) aI W6):=κ (by rw[<-H];exact jt.set (S:=λb=>b=W2.heap.size) (jt.refl _ _) (p:=⟨W2.heap.size,12,ϋ⟩) rfl _);have bp:=κ (bj.o.off2 (λ_ q d e=>by have:=aU.o q d;omega) au.o);have bm:=κ ((bl.o.keep aT.o).off2 (λ_ q d e=>by have:=ap.o q d;omega) au.o);have bo:=κ ((bn.o.keep aT.o).off2 (λ_ q d e=>by have:=aD.o q d;omega) au.o)
 (try rw[H])
 clear H br bC bv aP;have aK:Hid (W6.heap[w.heap.size]? =ϊ (.cells #[ι 0,ι 0,ι 0,ύ,υ 0,φ 0,ω 0,ω 0,(),ύ,φ 0,(),()] 65 (0,0))):=κ (qq aS.o aJ.o)
 go_upto_region 7 with fail
 go_wp2_with (first | (refine wpList_load_row rfl 65 (.tmp 6) rfl W2.heap.size rfl _ (Γi a.o.1 a.o.2 a.num a.pk N M o2 O aa U) _ _ aW.o underlying65 rfl ξ ?_) | (refine zr rfl 65 (.tmp 4) (.tmp 44) rfl w.heap.size 65 _ (Γi a.o.1 a.o.2 a.num a.pk N M o2 O aa U) aK.o rfl rfl ξ rfl X9 ?_))
 (refine bodyPost_ret (v:= .tuple #[(Γi a.o.1 a.o.2 a.num a.pk N M o2 O aa U),ό]) (yo results15 _ _ (w.heap.size) 65 (Γi a.o.1 a.o.2 a.num a.pk N M o2 O aa U) _ _ rfl rfl (jM aK.o (Γi a.o.1 a.o.2 a.num a.pk N M o2 O aa U)) underlying65 rfl ξ) rfl ?_)
 have av:=jt.setRow W6 w.heap.size (Γi a.o.1 a.o.2 a.num a.pk N M o2 O aa U);refine⟨_,_,_,_,_,_,rfl,⟨bm.o.off2 (λ_ q d e=>by have:=ap.o q d;have:=ae.o;omega) av,bo.o.off2 (λ_ q d e=>by have:=aD.o q d;have:=ae.o;omega) av,bp.o.off2 (λ_ q d e=>by have:=aU.o q d;have:=ae.o;omega) av⟩,(ao.o.trans aS.o).row (ϔ _) _⟩
def RDo (ao:qI w0 w k s F) (al:qV n s) (ap:n<=100000) (a:A22) (am:Option Addr) (ak:Nat) (aq:SlI .u8 w (δ am a.b.length ak) a.b) (U:Byt a.b) (ab:a.b.length<=400) (aa:U16 a.seq) (Y:U32 a.own):
  Calls prog 12 #[γ k.R,θ #[ι a.act,ι a.sub,ι a.pub,ι a.layer,δ am a.b.length ak,ι a.w.1,ι a.w.2,a.acc,ω a.own,ω a.stamp,φ a.seq,ω a.s0,ω a.s1,ω a.s2]] w λe w'=>
   ∃k',k'.R=k.R/\e= .returned (.tuple #[ι (doR s a).2.1,μ (doR s a).2.2])/\qI w0 w' k' (doR s a).1 F/\qw F w w':=by
 obtain⟨act,sub,pub,layer,b,⟨w1,w2⟩,acc,own,stamp,seq,s0,s1,s2⟩:=a;simp only at aq U ab aa Y ⊢;obtain⟨W1,H⟩:=ν (w.alloc (.cells #[ι act,ι sub,ι pub,ι layer,δ am b.length ak,ι w1,ι w2,acc,ω own,ω stamp,φ seq,ω s0,ω s1,ω s2] 42));have an:Hid (ql w W1):=κ (by rw[<-H];exact ql.alloc _ _);have O:Hid (W1.heap[w.heap.size]? =ϊ (.cells #[ι act,ι sub,ι pub,ι layer,δ am b.length ak,ι w1,ι w2,acc,ω own,ω stamp,φ seq,ω s0,ω s1,ω s2] 42 (0,0))):=κ (by rw[<-H];exact qj w _);have ac:=κ (ao.on an.o);have ad:=κ (ao.stay an.o);have ah:=κ al;have ar:=κ (aq.keep an.o);have af:=al.num.lost;have ae:=al.num.book;have av:=β0 O.o;have c1:=β1 O.o;have c2:=β2 O.o;have c3:=β3 O.o;have c4:=β4 O.o;have c5:=β5 O.o;have aA:=β6 O.o;have aB:=β7 O.o;have aC:=β8 O.o;have aD:=β9 O.o;have aw:=β10 O.o;have ax:=β11 O.o;have ay:=β12 O.o;have az:=β13 O.o;have au:act=0∨act=1∨act=2∨act=3∨act=4∨act=5∨act=6∨act=7∨act=8∨ ¬(0<=act/\act<=8):=by omega
 clear ao al aq;rcases au with rfl | rfl | rfl | rfl | rfl | rfl | rfl | rfl | rfl | hno
 ·have M:=κ (Gf ac.o b _ ar.o U τ τ);have I:Hid (doR s ⟨0,sub,pub,layer,b,(w1,w2),acc,own,stamp,seq,s0,s1,s2⟩=((s.arrive b).1,(s.arrive b).2,ύ)):=κ rfl;rw[I.o];clear af ae U ab aa Y
  go_enter func12,ntmps12
  go_upto_region 1 with fail
  (try rw[H])
  clear H
  go_wp2_with (go_at_call 33;(go_call M.o as e ag ⟨rfl,d,t2⟩;have J:=κ d;have N:=κ t2;clear d t2))
  go_ret2
  exact⟨k,rfl,rfl,J.o,ad.o.trans N.o⟩
 ·have M:=κ (Hq ac.o ah.o τ w1 w2 acc);have I:Hid (doR s ⟨1,sub,pub,layer,b,(w1,w2),acc,own,stamp,seq,s0,s1,s2⟩=((s.pick (w1,w2) acc).1,0,(s.pick (w1,w2) acc).2)):=κ rfl;rw[I.o];clear af ae U ab aa Y
  go_enter func12,ntmps12
  go_upto_region 1 with fail
  (try rw[H])
  clear H
  go_wp2_with (go_at_call 31;(go_call M.o as e ag ⟨rfl,d,t2⟩;have J:=κ d;have N:=κ t2;clear d t2))
  go_ret2
  exact⟨k,rfl,rfl,J.o,ad.o.trans N.o⟩
 ·have M:=κ (Hn ac.o ah.o ap);have I:Hid (doR s ⟨2,sub,pub,layer,b,(w1,w2),acc,own,stamp,seq,s0,s1,s2⟩=(s.tick.1,s.tick.2,ύ)):=κ rfl;rw[I.o];clear af ae U ab aa Y
  go_enter func12,ntmps12
  go_upto_region 1 with fail
  (try rw[H])
  clear H
  go_wp2_with (go_at_call 34;(go_call M.o as e ag ⟨rfl,d,t2⟩;have J:=κ d;have N:=κ t2;clear d t2))
  go_ret2
  exact⟨k,rfl,rfl,J.o,ad.o.trans N.o⟩
 ·have M:=κ (V0 ac.o ah.o.num.cfg pub s0 s1 s2);have I:Hid (doR s ⟨3,sub,pub,layer,b,(w1,w2),acc,own,stamp,seq,s0,s1,s2⟩=((s.publish pub s0 s1 s2).1,(s.publish pub s0 s1 s2).2,ύ)):=κ rfl;rw[I.o];clear af ae U ab aa Y
  go_enter func12,ntmps12
  go_upto_region 1 with fail
  (try rw[H])
  clear H
  go_wp2_with (go_at_call 45;(go_call M.o as e ag ⟨aj,ai,rfl,d,t2⟩;have J:=κ d;have N:=κ t2;clear d t2))
  go_ret2
  exact⟨aj,ai,rfl,J.o,ad.o.trans N.o⟩
 ·have M:=κ (Hr ac.o ah.o.num.cfg sub own seq stamp aa Y);have I:Hid (doR s ⟨4,sub,pub,layer,b,(w1,w2),acc,own,stamp,seq,s0,s1,s2⟩=((s.join sub own seq stamp).1,(s.join sub own seq stamp).2,ύ)):=κ rfl;rw[I.o];clear af ae U ab aa Y
  go_enter func12,ntmps12
  go_upto_region 1 with fail
  (try rw[H])
  clear H
  go_wp2_with (go_at_call 35;(go_call M.o as e ag ⟨aj,ai,rfl,d,t2⟩;have J:=κ d;have N:=κ t2;clear d t2))
  go_ret2
  exact⟨aj,ai,rfl,J.o,ad.o.trans N.o⟩
 ·have M:=κ (XM ac.o (ah.o.subs ap) sub pub layer);have I:Hid (doR s ⟨5,sub,pub,layer,b,(w1,w2),acc,own,stamp,seq,s0,s1,s2⟩=((s.subscribe sub pub layer).1,(s.subscribe sub pub layer).2,ύ)):=κ rfl;rw[I.o];clear af ae U ab aa Y
  go_enter func12,ntmps12
  go_upto_region 1 with fail
  (try rw[H])
  clear H
  go_wp2_with (go_at_call 46;(go_call M.o as e ag ⟨rfl,d,t2⟩;have J:=κ d;have N:=κ t2;clear d t2))
  go_ret2
  exact⟨k,rfl,rfl,J.o,ad.o.trans N.o⟩
 ·have M:=κ (Ms ac.o (ah.o.subs ap) sub layer);have I:Hid (doR s ⟨6,sub,pub,layer,b,(w1,w2),acc,own,stamp,seq,s0,s1,s2⟩=((s.want sub layer).1,(s.want sub layer).2,ύ)):=κ rfl;rw[I.o];clear af ae U ab aa Y
  go_enter func12,ntmps12
  go_upto_region 1 with fail
  (try rw[H])
  clear H
  go_wp2_with (go_at_call 36;(go_call M.o as e ag ⟨rfl,d,t2⟩;have J:=κ d;have N:=κ t2;clear d t2))
  go_ret2
  exact⟨k,rfl,rfl,J.o,ad.o.trans N.o⟩
 ·have M:=κ (Lh ac.o τ sub);have I:Hid (doR s ⟨7,sub,pub,layer,b,(w1,w2),acc,own,stamp,seq,s0,s1,s2⟩=((s.leave sub).1,(s.leave sub).2,ύ)):=κ rfl;rw[I.o];clear af ae U ab aa Y
  go_enter func12,ntmps12
  go_upto_region 1 with fail
  (try rw[H])
  clear H
  go_wp2_with (go_at_call 47;(go_call M.o as e ag ⟨aj,ai,rfl,d,t2⟩;have J:=κ d;have N:=κ t2;clear d t2))
  go_ret2
  exact⟨aj,ai,rfl,J.o,ad.o.trans N.o⟩
 ·have M:=κ (Ho ac.o);have I:Hid (doR s ⟨8,sub,pub,layer,b,(w1,w2),acc,own,stamp,seq,s0,s1,s2⟩=(s.shut.1,s.shut.2,ύ)):=κ rfl;rw[I.o];clear af ae U ab aa Y
  go_enter func12,ntmps12
  go_upto_region 1 with fail
  (try rw[H])
  clear H
  go_wp2_with (go_at_call 28;(go_call M.o as e ag ⟨rfl,d,t2⟩;have J:=κ d;have N:=κ t2;clear d t2))
  go_ret2
  exact⟨k,rfl,rfl,J.o,ad.o.trans N.o⟩
 ·have I:Hid (doR s ⟨act,sub,pub,layer,b,(w1,w2),acc,own,stamp,seq,s0,s1,s2⟩=(s,0,ύ)):=κ (by
   unfold doR;simp only
   rw[ώ τ,ώ τ,ώ τ,ώ τ,ώ τ,ώ τ,ώ τ,ώ τ,ώ τ])
  rw[I.o];clear af ae U ab aa Y;have aE:(act==0)=ύ:=by simp;omega
  have aF:(act==1)=ύ:=by simp;omega
  have aG:(act==2)=ύ:=by simp;omega
  have aH:(act==3)=ύ:=by simp;omega
  have aI:(act==4)=ύ:=by simp;omega
  have aJ:(act==5)=ύ:=by simp;omega
  have aK:(act==6)=ύ:=by simp;omega
  have aL:(act==7)=ύ:=by simp;omega
  have aM:(act==8)=ύ:=by simp;omega
  clear hno
  go_enter func12,ntmps12
  go_upto_region 1 with fail
  (try rw[H])
  clear H;go_wp2
  go_ret2
  exact⟨k,rfl,rfl,ac.o,ad.o⟩
def uh:qL A22:=λw cs a=> ∃vb,cs=[.int .i64 a.act,.int .i64 a.sub,.int .i64 a.pub,.int .i64 a.layer,vb,.int .i64 a.w.1,.int .i64 a.w.2,.bool a.acc,.int .u32 a.own,.int .u32 a.stamp,.int .u16 a.seq,.int .u32 a.s0,.int .u32 a.s1,.int .u32 a.s2]/\SlI .u8 w vb a.b/\(Byt a.b/\U32 a.own/\U16 a.seq/\ ∀v∈[a.s0,a.s1,a.s2],0<=v/\v<=4294967295)
def kj:QQ uh:=λ_ _ _ _ m ⟨vb,d,H,I⟩=>⟨vb,d,H.keep m,I⟩
def LE:qL (Int×Int×Unit):=zf 1 (yW .i64) (zf 1 (yW .i64) Gp)
def Sx:jC prog 37 LE:=
 jC.struct underlying37 ξ (jH.cons rfl ξ (jC.int underlying3) (jH.cons rfl ξ (jC.int underlying3) jH.nil))
def LG:qL (Int×Int×Int×Int×List Int×(Int×Int×Unit)×Bool×Int×Int×Int×List Int×Unit):=
 zf 1 (yW .i64) (zf 1 (yW .i64) (zf 1 (yW .i64) (zf 1 (yW .i64) (zf 1 (RSl 1 (yW .u8)) (zf 2 LE (zf 1 DS (zf 1 (yW .u32) (zf 1 (yW .u32) (zf 1 (yW .u16) (zf 3 (LK 3 1 (yW .u32)) Gp))))))))))
def Cv {y:Int×Int×Int×Int×List Int×(Int×Int×Unit)×Bool×Int×Int×Int×List Int×Unit} (ak:cs.length=14) (h:LG w cs y): ∃z,uh w cs z:=by
 match cs,ak with
 | [k0,k1,k2,k3,k4,k5,k6,k7,k8,k9,k10,k11,k12,k13],_=>
  obtain⟨⟨O,_⟩,⟨U,_⟩,⟨aa,_⟩,⟨ab,_⟩,⟨ap,ac,ao⟩,⟨⟨ad,_⟩,⟨ae,_⟩,_⟩,af,⟨ag,aj⟩,⟨ah,_⟩,⟨Y,ai⟩,⟨_,J,M⟩,_⟩:=h;simp[DS] at O U aa ab ac ad ae af ag ah Y;have d:=M 0 (by rw[J];omega);have H:=M 1 (by rw[J];omega);have I:=M 2 (by rw[J];omega);obtain⟨d,al⟩:=d;obtain⟨H,am⟩:=H;obtain⟨I,p2⟩:=I;simp at d H I;obtain⟨an,aq⟩:=ao.ints;refine⟨⟨_,_,_,_,_,(_,_),_,_,_,_,_,_,_⟩,ap,by rw[O,U,aa,ab,ac,ad,ae,af,ag,ah,Y,d,H,I],an,Byt.of_wf aq,bounds_u32 aj,bounds_u16 ai,λv N=> ?_⟩;simp at N;rcases N with rfl | rfl | rfl
  ·exact bounds_u32 al
  ·exact bounds_u32 am
  ·exact bounds_u32 p2
def Xg:jC prog 42 uh:=λH I w base U M J cs x d=>by
 obtain⟨y,O⟩:=(jC.struct (R:=LG) underlying42 ξ (jH.cons rfl ξ (jC.int underlying3) (jH.cons rfl ξ (jC.int underlying3) (jH.cons rfl ξ (jC.int underlying3) (jH.cons rfl ξ (jC.int underlying3) (jH.cons rfl ξ (jC.sl underlying35 ξ ζ (jC.int underlying5)) (jH.cons rfl ξ Sx (jH.cons rfl ξ (jC.bool underlying4) (jH.cons rfl ξ (jC.int underlying38) (jH.cons rfl ξ (jC.int underlying38) (jH.cons rfl ξ (jC.int underlying39) (jH.cons rfl ξ (jC.arr underlying40 ξ ξ (jC.int underlying38)) jH.nil)))))))))))) H I w base U M J cs x d;refine Cv ?_ O;obtain⟨_,_,_,_,N,_⟩:=DataW.trod_struct underlying42 d;rw[N]
 kernel_rfl
def Tv:qL CfR:=λ_ cs c=>cs=[.int .i64 c.room,.int .i64 c.hold,.int .i64 c.wait,.int .i64 c.space,.int .i64 c.retry,.int .i64 c.most]
def Hj:qL (Int×Int×Unit):=zf 1 (yW .i64) (zf 1 (yW .i64) Gp)
def Pi:jC prog 23 Hj:=
 jC.struct underlying23 ξ (jH.cons rfl ξ (jC.int underlying2) (jH.cons rfl ξ (jC.int underlying2) jH.nil))
def Xf:jC prog 25 Tv:=λY aa w base ae ac ab cs x H=>by
 obtain⟨y,ad⟩:=(jC.struct (R:=zf 1 (yW .i64) (zf 1 (yW .i64) (zf 1 (yW .i64) (zf 2 Hj (zf 1 (yW .i64) Gp))))) underlying25 ξ (jH.cons rfl ξ (jC.int underlying3) (jH.cons rfl ξ (jC.int underlying3) (jH.cons rfl ξ (jC.int underlying2) (jH.cons rfl ξ Pi (jH.cons rfl ξ (jC.int underlying3) jH.nil)))))) Y aa w base ae ac ab cs x H;have d:cs.length=6:=by
  obtain⟨_,_,_,_,d,_⟩:=DataW.trod_struct underlying25 H;rw[d]
  kernel_rfl
 match cs,d with
 | [k0,k1,k2,k3,k4,k5],_=>
  obtain⟨⟨I,_⟩,⟨J,_⟩,⟨M,_⟩,⟨⟨N,_⟩,⟨O,_⟩,_⟩,⟨U,_⟩,_⟩:=ad;simp at I J M N O U;exact⟨⟨_,_,_,_,_,_⟩,by rw[I,J,M,N,O,U];rfl⟩
def jv:A22:=⟨0,0,0,0,[],(0,0),ύ,0,0,0,0,0,0⟩
def Yt (h:SlP 14 uh w v l): ∃H cap,v= δ H l.length cap/\(l.length:Int)<=9223372036854775807/\ ∀i,i<l.length-> ∃b J I d,H=ϊ ⟨b,J,ϋ⟩/\b<w.heap.size/\
  (∀w',ql w w'->w'.rangeAt b (J+i* 14) [ι (l.getD i jv).act,ι (l.getD i jv).sub,ι (l.getD i jv).pub,ι (l.getD i jv).layer,δ I (l.getD i jv).b.length d,ι (l.getD i jv).w.1,ι (l.getD i jv).w.2,μ (l.getD i jv).acc,ω (l.getD i jv).own,ω (l.getD i jv).stamp,φ (l.getD i jv).seq,ω (l.getD i jv).s0,ω (l.getD i jv).s1,ω (l.getD i jv).s2])/\
  SlI .u8 w (δ I (l.getD i jv).b.length d) (l.getD i jv).b/\(Byt (l.getD i jv).b/\U32 (l.getD i jv).own/\U16 (l.getD i jv).seq/\ ∀v∈[(l.getD i jv).s0,(l.getD i jv).s1,(l.getD i jv).s2],0<=v/\v<=4294967295):=by
 obtain⟨H,cap,Y,aa,ab,af⟩:=id h;refine⟨H,cap,Y,aa,λi hi=> ?_⟩;obtain⟨b,J,cs,e,M,ag,ac,vb,rfl,O,ae⟩:=ab i hi;have U:l.getD i jv=l[i]:=by simp[hi]
 rw[U];obtain⟨I,d,rfl,_⟩:=id O;refine⟨b,J,I,d,e,M,λw' m j v N=> ?_,O,ae⟩;have ad:j<14:=(ϟ.1 N).1;rw[m.cells b _ M,ac j ad];exact N
def yk (l:List A22):Bool:=decide (120<l.length)||l.any λx=>decide (400<x.b.length)
def Xj (h:yk l=ύ):l.length<=120/\ ∀i,i<l.length->(l.getD i jv).b.length<=400:=by
 unfold yk at h;rw[V5] at h;refine⟨by simpa using h.1,λi hi=> ?_⟩;have:=M0.1 h.2 l[i] (ϡ hi);have d:l.getD i jv=l[i]:=by simp[hi]
 rw[d]
 simpa using this
def uS (v:Value) (l:List A22) (w:World) (af:SlP 14 uh w v l):Calls prog 10 #[v] w λe w'=>e= .returned (μ (yk l))/\ql w w':=by
 obtain⟨au,cap,rfl,ar,J⟩:=Yt af;clear af;by_cases hlen:(l.length:Int)<=120
 ·go_enter func10,ntmps10
  go_wp2
  go_loopw [10] (λi wr=> ∃j:Nat,j<=l.length/\i= ι j/\(∀i,i<j-> ¬400<(l.getD i jv).b.length)/\ql w wr) (λi _=>l.length-(intOf i).toNat)
  case atStart=>exact⟨0,τ,rfl,λi hi=>by omega,ql.refl _⟩
  case round=>
   obtain⟨j,aq,rfl,I,d⟩:=hrel;by_cases hlt:j<l.length
   ·obtain⟨b,ae,ad,ac,rfl,ap,aa,_⟩:=J j hlt;have O:=κ (aa wr d);have ao:(j:Int)<(l.length:Int):=by omega
    have ag:=κ I;have H:=κ d
    have ak:Hid (400<(l.getD j jv).b.length->yk l=ό):=κ (λh=>by
     unfold yk;rw[S5]
     exact ϕ (Q4.2 ⟨l.getD j jv,by simp[hlt],by simpa using h⟩))
    generalize M:l.getD j jv=x at *;have aj:=κ M;clear I aa d M J hlen;by_cases an:(400:Int)<(x.b.length:Int)
    ·have N:=κ (ak.o τ)
     go_wp2_with (refine wpList_load_mid rfl 42 (.tmp 12) rfl b (ae+j* 14) rfl [ι x.act,ι x.sub,ι x.pub,ι x.layer,δ ad x.b.length ac,ι x.w.1,ι x.w.2,x.acc,ω x.own,ω x.stamp,φ x.seq,ω x.s0,ω x.s1,ω x.s2] _ O.o underlying42 rfl ξ ?_)
     go_ret;exact⟨by rw[N.o];rfl,H.o.al _⟩
    ·have U: ¬400<x.b.length:=by omega
     have ah:Hid (∀i,i<j+1-> ¬400<(l.getD i jv).b.length):=κ (λi hi=>by
      by_cases e:i<j
      ·exact ag.o i e
      ·obtain rfl:i=j:=by omega
       rw[aj.o];exact U)
     clear U
     go_wp2_with (refine wpList_load_mid rfl 42 (.tmp 12) rfl b (ae+j* 14) rfl [ι x.act,ι x.sub,ι x.pub,ι x.layer,δ ad x.b.length ac,ι x.w.1,ι x.w.2,x.acc,ω x.own,ω x.stamp,φ x.seq,ω x.s0,ω x.s1,ω x.s2] _ O.o underlying42 rfl ξ ?_)
     go_roundw
     case rel=>exact⟨j+1,τ,by go_num,ah.o,H.o.al _⟩
     case measure=>simp[intOf];omega
   ·obtain rfl:j=l.length:=by omega
    have ao: ¬(l.length:Int)<(l.length:Int):=by omega
    have Y:yk l=ύ:=by
     unfold yk;rw[V5];refine⟨by simp;omega,M0.2 λx M=> ?_⟩;obtain⟨i,hi,rfl⟩:=A0.1 M;have:=I i hi;have am:l.getD i jv=l[i]:=by simp[hi]
     rw[am] at this
     simpa using this
    have ai:=κ Y;have H:=κ d;clear Y I J d;go_wp2;go_ret;exact⟨by rw[ai.o];rfl,H.o⟩
 ·have ab:yk l=ό:=by
   unfold yk;rw[S5];exact ϑ (by simp;omega)
  have N:=κ ab;have an:(120:Int)<(l.length:Int):=by omega
  clear J ab hlen
  go_enter func10,ntmps10
  go_wp2;go_ret;exact⟨by rw[N.o];rfl,ql.refl _⟩
section
variable {P:Program} {C:World->Prop} {K:Act->World->Prop} {a:Act} {w:World} {d:Option Tmp} {t:TypeId} {ty:TypeId} {ps:String} {af:Array Edge}
def Xk (h:C (w.alloc (.map #[] 0))/\K (a.put d (.map (ϊ w.heap.size))) (w.alloc (.map #[] 0))):jn P C {dst:=d,op:= .makeMap t ϋ,type:=ty,pos:=ps,after:=af,guard:=ϋ} a w K:=by
 unfold jn execOp;simp only[O3,Sem.run_bind,run_makeMap,Result.andThen_ok,Sem.run_pure];exact h
end
section
variable {C:World->Prop} {K:Act->World->Prop} {a:Act} {w:World} {d:Option Tmp} {ty:TypeId} {ps:String} {af:Array Edge}
def Pr (h:Calls prog 43 #[] w λe w''=> ∃v,e= .returned v/\C w''/\K (a.put d v) w''):jn prog C {dst:=d,op:= .call {callee:= .value (.func 43),args:= #[],argTypes:= #[]},type:=ty,pos:=ps,after:=af,guard:=ϋ} a w K:=by
 unfold jn;go_simp;exact h
def UN (h:Calls prog 44 #[] w λe w''=> ∃v,e= .returned v/\C w''/\K (a.put d v) w''):jn prog C {dst:=d,op:= .call {callee:= .value (.func 44),args:= #[],argTypes:= #[]},type:=ty,pos:=ps,after:=af,guard:=ϋ} a w K:=by
 unfold jn;go_simp;exact h
end
def uP (a:Act) (i:Nat) (v u:Value):(a.put (ϊ i) v).put (ϊ i) u=a.put (ϊ i) u:=by
 simp[Act.put]
def zN (a:Act) {j:Nat} (v u:Value) (h:i≠j):(a.put (ϊ i) v).put (ϊ j) u=(a.put (ϊ j) u).put (ϊ i) v:=
 Act.put_comm a v u (λH d e=>h (by injection d with d;injection e with e;omega))
def kh (a:Act) (i:Nat) (h:i<a.tmps.size):a.put (ϊ i) (a.tmps.getD i undef)=a:=by
 obtain⟨t,d⟩:=a;have e:t.setIfInBounds i (t.getD i undef)=t:=by
  apply Array.ext
  ·simp
  ·intro j I H;rw[Array.getElem_setIfInBounds];split
   ·rename_i q;subst q;simp[H]
   ·rfl
 show Act.mk (t.setIfInBounds i (t.getD i undef)) d=⟨t,d⟩;rw[e]
structure Xs where
 x42:Value
 x43:Value
 x45:Value
 x47:Value
 x48:Value
 x49:Value
def pA (A:Act) (x:Xs):Act:=(((((A.put (ϊ 42) x.x42).put (ϊ 43) x.x43).put (ϊ 45) x.x45).put (ϊ 47) x.x47).put (ϊ 48) x.x48).put (ϊ 49) x.x49
def L8 (A:Act) (x:Xs) (v:Value):(pA A x).put (ϊ 42) v=pA A {x with x42:=v}:=by
 unfold pA;rw[zN (i:=49) (j:=42) _ x.x49 v ζ,zN (i:=48) (j:=42) _ x.x48 v ζ,zN (i:=47) (j:=42) _ x.x47 v ζ,zN (i:=45) (j:=42) _ x.x45 v ζ,zN (i:=43) (j:=42) _ x.x43 v ζ,uP]
def LZ (A:Act) (x:Xs) (v:Value):(pA A x).put (ϊ 43) v=pA A {x with x43:=v}:=by
 unfold pA;rw[zN (i:=49) (j:=43) _ x.x49 v ζ,zN (i:=48) (j:=43) _ x.x48 v ζ,zN (i:=47) (j:=43) _ x.x47 v ζ,zN (i:=45) (j:=43) _ x.x45 v ζ,uP]
def LY (A:Act) (x:Xs) (v:Value):(pA A x).put (ϊ 45) v=pA A {x with x45:=v}:=by
 unfold pA;rw[zN (i:=49) (j:=45) _ x.x49 v ζ,zN (i:=48) (j:=45) _ x.x48 v ζ,zN (i:=47) (j:=45) _ x.x47 v ζ,uP]
def LW (A:Act) (x:Xs) (v:Value):(pA A x).put (ϊ 47) v=pA A {x with x47:=v}:=by
 unfold pA;rw[zN (i:=49) (j:=47) _ x.x49 v ζ,zN (i:=48) (j:=47) _ x.x48 v ζ,uP]
def LV (A:Act) (x:Xs) (v:Value):(pA A x).put (ϊ 48) v=pA A {x with x48:=v}:=by
 unfold pA;rw[zN (i:=49) (j:=48) _ x.x49 v ζ,uP]
def LU (A:Act) (x:Xs) (v:Value):(pA A x).put (ϊ 49) v=pA A {x with x49:=v}:=by
 unfold pA;rw[uP]
def Bu (A:Act) (x:Xs) (h:50<=A.tmps.size):(pA A x).eval (.tmp 42)=x.x42:=by
 unfold pA;simp[Act.put,Act.eval,O5,(by omega:42<A.tmps.size)]
structure Yk (wB:World) (d0 d3 d5 d6 d7:Bool) (x:Xs) (w:World) (T:Nat->Tg):Prop where
 more:ql wB w
 fresh: ∀b,T b≠ .no->wB.heap.size<=b/\b<w.heap.size
 bk:d0=ό-> ∃B b,x.x42= .pointer (ϊ ⟨B,0,ϋ⟩)/\x.x43= .agg #[.pointer (ϊ ⟨B,0,ϋ⟩)]/\T B= .book/\T b= .book/\jy w B b []
 rt:d3=ό-> ∃M,x.x45= .map (ϊ M)/\T M= .ret/\jk w M kO Value.bool []
 tb:d5=ό-> ∃t a b c,x.x47= .pointer (ϊ ⟨t,0,ϋ⟩)/\T t= .table/\T a= .table/\T b= .table/\T c= .table/\jq w t a b c ⟨[],[],[]⟩
 ls:d6=ό-> ∃M,x.x48= .map (ϊ M)/\T M= .lns/\jk w M (Value.int .i64) gj []
 ss:d7=ό-> ∃M,x.x49= .map (ϊ M)/\T M= .sts/\jk w M kO gj []
section
variable {wB w w':World} {d0 d3 d5 d6 d7:Bool} {x:Xs} {T:Nat->Tg}
def Yk.no (h:Yk wB d0 d3 d5 d6 d7 x w T): ∀b,w.heap.size<=b->T b= .no:=λb d=>by
 cases e:T b<;>first | rfl | (exfalso;have:=(h.fresh b (by rw[e];simp)).2;omega)
def Yk.grow (h:Yk wB d0 d3 d5 d6 d7 x w T) (m:ql w w') (t:Tg):Yk wB d0 d3 d5 d6 d7 x w' (jZ T t w w'):=by
 have U:=h.no;have k: ∀{b:Nat} {u:Tg},u≠ .no->T b=u->jZ T t w w' b=u:=λY M=>(jd U Y _).2 (ϑ M)
 refine⟨h.more.trans m,λb M=> ?_,λe=> ?_,λe=> ?_,λe=> ?_,λe=> ?_,λe=> ?_⟩
 ·unfold jZ at M;split at M
  ·rename_i q;exact⟨Ϙ h.more.size q.1,q.2⟩
  ·have:=h.fresh b M;exact⟨this.1,ϗ this.2 m.size⟩
 ·obtain⟨B,b,d,H,I,N,O⟩:=h.bk e;exact⟨B,b,d,H,k η I,k η N,O.more m⟩
 ·obtain⟨J,d,H,I⟩:=h.rt e;exact⟨J,d,k η H,I.more m⟩
 ·obtain⟨t,a,b,c,d,H,I,N,O,aa⟩:=h.tb e;exact⟨t,a,b,c,d,k η H,k η I,k η N,k η O,aa.more m⟩
 ·obtain⟨J,d,H,I⟩:=h.ls e;exact⟨J,d,k η H,I.more m⟩
 ·obtain⟨J,d,H,I⟩:=h.ss e;exact⟨J,d,k η H,I.more m⟩
def yb (I: ∀b,w.heap.size<=b->T b= .no) {t:Tg} (J:t≠ .no) (d:w.heap.size<=b) (H:b<w'.heap.size):jZ T t w w' b=t:=(jd I J b).2 (ϕ ⟨rfl,d,H⟩)
end
def NM {o:Oper} {y:Nat->Option Bool} {p q:Prop} (h:Region.wanted o y=ό) (d:p):if Region.wanted o y then p else q:=by
 rw[ϐ h];exact d
def wy:Nat->Bool->Bool->Bool->Bool->Bool->Tr
 | 0,_,_,_,_,_=> .op 8 ύ (.op 9 ό (.op 10 ύ (.op 11 ύ .done)))
 | n+1,d0,d3,d5,d6,d7=> .br ((if d0 then [] else [0])++(if d3 then [] else [3])++(if d0&& !d5 then [5] else [])++(if d6 then [] else [6])++(if d7 then [] else [7]))
  (λk=>if k=0 then .op 1 ύ (wy n ό d3 d5 d6 d7) else if k=3 then wy n d0 ό d5 d6 d7 else if k=5 then wy n d0 d3 ό d6 d7 else if k=6 then wy n d0 d3 d5 ό d7 else wy n d0 d3 d5 d6 ό)
def JP (d0 d3 d5 d6 d7:Bool):Nat:=(if d0 then 0 else 1)+(if d3 then 0 else 1)+(if d5 then 0 else 1)+(if d6 then 0 else 1)+(if d7 then 0 else 1)
section
variable {l:List Oper} {T0:Nat} {Q:Act->World->Prop} {A:Act} {wB:World}
def It (aq:50<=A.tmps.size)
  (ae: ∃ty ps af,l[0]? =ϊ {dst:=ϊ 42,op:= .call {callee:= .value (.func 43),args:= #[],argTypes:= #[]},type:=ty,pos:=ps,after:=af,guard:=ϋ})
  (ag: ∃ty ps af,l[1]? =ϊ {dst:=ϊ 43,op:= .build 86 #[(0,.tmp 42)],type:=ty,pos:=ps,after:=af,guard:=ϋ})
  (ah: ∃ty ps af,l[3]? =ϊ {dst:=ϊ 45,op:= .makeMap 87 ϋ,type:=ty,pos:=ps,after:=af,guard:=ϋ})
  (ai: ∃ty ps af,l[5]? =ϊ {dst:=ϊ 47,op:= .call {callee:= .value (.func 44),args:= #[],argTypes:= #[]},type:=ty,pos:=ps,after:=af,guard:=ϋ})
  (aj: ∃ty ps af,l[6]? =ϊ {dst:=ϊ 48,op:= .makeMap 90 ϋ,type:=ty,pos:=ps,after:=af,guard:=ϋ})
  (ak: ∃ty ps af,l[7]? =ϊ {dst:=ϊ 49,op:= .makeMap 91 ϋ,type:=ty,pos:=ps,after:=af,guard:=ϋ})
  (ap: ∀x w T,Yk wB ό ό ό ό ό x w T->zk prog l.toArray T0 (λw'=> ∃y:qt wB,w'=y.w') Q (.op 8 ύ (.op 9 ό (.op 10 ύ (.op 11 ύ .done)))) (pA A x) w):
  ∀(n:Nat) (O I J M N:Bool) (x:Xs) (w:World) (T:Nat->Tg),n=JP O I J M N->Yk wB O I J M N x w T->zk prog l.toArray T0 (λw'=> ∃y:qt wB,w'=y.w') Q (wy n O I J M N) (pA A x) w:=by
 obtain⟨aH,aB,au,ae⟩:=ae;obtain⟨aI,aC,av,ag⟩:=ag;obtain⟨aJ,aD,aw,ah⟩:=ah;obtain⟨aK,aE,ax,ai⟩:=ai;obtain⟨aL,aF,ay,aj⟩:=aj;obtain⟨aM,aG,az,ak⟩:=ak;intro n
 induction n with
 | zero=>
  intro O I J M N x w T aa U;have e:O=ό/\I=ό/\J=ό/\M=ό/\N=ό:=by
   cases O<;>cases I<;>cases J<;>cases M<;>cases N<;>simp[JP] at aa ⊢
  obtain⟨rfl,rfl,rfl,rfl,rfl⟩:=e;exact ap x w T U
 | succ n ih=>
  intro O I J M N x w T aa U;have Y:=U.no;unfold wy;unfold zk;intro k H;simp only[ϯ] at H;rcases H with (((H | H) | H) | H) | H
  ·cases O with
   | true=>simp at H
   | false=>
    simp at H;subst H;simp only[A4,ae,ϣ,A7];refine NM rfl ?_;refine zm (D:=λw'=> ∃y:qt wB,w'=y.w') (λ_ h=>yF h) (Pr ?_);refine(Nv w).mono ?_;rintro e w' ⟨B,b,rfl,al,am,ab,ac⟩;have d:=U.grow ac .book;refine⟨_,rfl,qk (U.more.trans ac), ?_⟩;rw[L8];show zk _ _ _ _ _ (.op 1 ύ (wy n ό I J M N)) _ _;refine qH ag rfl (qk (U.more.trans ac)) λK ar=> ?_
    refine⟨θ #[γ B],λw2 aA=> ?_, ?_⟩
    ·unfold Oper.quietAt execOp;simp only[K2,Ϟ,D4];have an:=Bu A {x with x42:= γ B} aq;simp only at an;rw[an];go_simp
    ·refine ar _ ?_;rw[LZ];exact ih ό I J M N _ w' _ (by cases I<;>cases J<;>cases M<;>cases N<;>simp[JP] at aa ⊢ <;>omega)
      ⟨d.more,d.fresh,λ_=>⟨B,b,rfl,rfl,yb Y η al (qn ab.blk),yb Y η am ab.map.lt,ab⟩,d.rt,d.tb,d.ls,d.ss⟩
  ·cases I with
   | true=>simp at H
   | false=>
    simp at H;subst H;simp only[A4,ah,ϣ];refine NM rfl ?_;have m:=ql.alloc w (.map #[] 0);have d:=U.grow m .ret;refine zm (D:=λw'=> ∃y:qt wB,w'=y.w') (λ_ h=>yF h) (Xk ⟨qk d.more, ?_⟩);rw[LY];exact ih O ό J M N _ _ _ (by cases O<;>cases J<;>cases M<;>cases N<;>simp[JP] at aa ⊢ <;>omega)
     ⟨d.more,d.fresh,d.bk,λ_=>⟨w.heap.size,rfl,yb Y η (ϔ _) η,jk.made w _ _⟩,d.tb,d.ls,d.ss⟩
  ·cases O<;>cases J<;>simp at H
   subst H;simp only[A4,ai,ϣ];refine NM rfl ?_;refine zm (D:=λw'=> ∃y:qt wB,w'=y.w') (λ_ h=>yF h) (UN ?_);refine(Mv w).mono ?_;rintro e w' ⟨t,a,b,c,rfl,al,am,ab,ac,ad,ao⟩;have d:=U.grow ao .table;refine⟨_,rfl,qk (U.more.trans ao), ?_⟩;rw[LW];exact ih ό I ό M N _ w' _ (by cases I<;>cases M<;>cases N<;>simp[JP] at aa ⊢ <;>omega)
    ⟨d.more,d.fresh,d.bk,d.rt,λ_=>⟨t,a,b,c,rfl,yb Y η al (qn ad.blk),yb Y η am ad.mo.lt,yb Y η ab ad.ms.lt,yb Y η ac ad.mu.lt,ad⟩,d.ls,d.ss⟩
  ·cases M with
   | true=>simp at H
   | false=>
    simp at H;subst H;simp only[A4,aj,ϣ];refine NM rfl ?_;have m:=ql.alloc w (.map #[] 0);have d:=U.grow m .lns;refine zm (D:=λw'=> ∃y:qt wB,w'=y.w') (λ_ h=>yF h) (Xk ⟨qk d.more, ?_⟩);rw[LV];exact ih O I J ό N _ _ _ (by cases O<;>cases I<;>cases J<;>cases N<;>simp[JP] at aa ⊢ <;>omega)
     ⟨d.more,d.fresh,d.bk,d.rt,d.tb,λ_=>⟨w.heap.size,rfl,yb Y η (ϔ _) η,jk.made w _ _⟩,d.ss⟩
  ·cases N with
   | true=>simp at H
   | false=>
    simp at H;subst H;simp only[A4,ak,ϣ];refine NM rfl ?_;have m:=ql.alloc w (.map #[] 0);have d:=U.grow m .sts;refine zm (D:=λw'=> ∃y:qt wB,w'=y.w') (λ_ h=>yF h) (Xk ⟨qk d.more, ?_⟩);rw[LU];exact ih O I J M ό _ _ _ (by cases O<;>cases I<;>cases J<;>cases M<;>simp[JP] at aa ⊢ <;>omega)
     ⟨d.more,d.fresh,d.bk,d.rt,d.tb,d.ls,λ_=>⟨w.heap.size,rfl,yb Y η (ϔ _) η,jk.made w _ _⟩⟩
def EB (A:Act) (h:50<=A.tmps.size): ∃x,pA A x=A:=by
 refine⟨⟨A.tmps.getD 42 undef,A.tmps.getD 43 undef,A.tmps.getD 45 undef,A.tmps.getD 47 undef,A.tmps.getD 48 undef,A.tmps.getD 49 undef⟩, ?_⟩;unfold pA;simp only;rw[kh A 42 τ,kh A 43 τ,kh A 45 τ,kh A 47 τ,kh A 48 τ,kh A 49 τ]
def Pn (d:50<=A.tmps.size)
  (I: ∃ty ps af,l[0]? =ϊ {dst:=ϊ 42,op:= .call {callee:= .value (.func 43),args:= #[],argTypes:= #[]},type:=ty,pos:=ps,after:=af,guard:=ϋ})
  (J: ∃ty ps af,l[1]? =ϊ {dst:=ϊ 43,op:= .build 86 #[(0,.tmp 42)],type:=ty,pos:=ps,after:=af,guard:=ϋ})
  (M: ∃ty ps af,l[3]? =ϊ {dst:=ϊ 45,op:= .makeMap 87 ϋ,type:=ty,pos:=ps,after:=af,guard:=ϋ})
  (N: ∃ty ps af,l[5]? =ϊ {dst:=ϊ 47,op:= .call {callee:= .value (.func 44),args:= #[],argTypes:= #[]},type:=ty,pos:=ps,after:=af,guard:=ϋ})
  (O: ∃ty ps af,l[6]? =ϊ {dst:=ϊ 48,op:= .makeMap 90 ϋ,type:=ty,pos:=ps,after:=af,guard:=ϋ})
  (U: ∃ty ps af,l[7]? =ϊ {dst:=ϊ 49,op:= .makeMap 91 ϋ,type:=ty,pos:=ps,after:=af,guard:=ϋ})
  (w:World) (m:ql wB w)
  (H: ∀x w T,Yk wB ό ό ό ό ό x w T->zk prog l.toArray T0 (λw'=> ∃y:qt wB,w'=y.w') Q (.op 8 ύ (.op 9 ό (.op 10 ύ (.op 11 ύ .done)))) (pA A x) w):
  zk prog l.toArray T0 (λw'=> ∃y:qt wB,w'=y.w') Q (wy 5 ύ ύ ύ ύ ύ) A w:=by
 obtain⟨x,e⟩:=EB A d;have:=It (Q:=Q) (T0:=T0) d I J M N O U H 5 ύ ύ ύ ύ ύ x w (λ_=> .no) rfl ⟨m,λb Y=>ϩ rfl Y,λe=>(by cases e),λe=>(by cases e),λe=>(by cases e),λe=>(by cases e),λe=>(by cases e)⟩;rw[e] at this;exact this
end
def Ba {w8 w9:World} {c:CfR} {x:Xs} {RQ AQ:Nat} (ae:ql w J) (H:Yk J ό ό ό ό ό x w8 T) (aF:w.heap.size<=RQ/\RQ<J.heap.size) (aG:w.heap.size<=AQ/\AQ<J.heap.size)
  (d:zR J RQ AQ c.room.toNat 0 [] 0 0 0 0 (List.replicate c.room.toNat [δ ϋ 0 0])) (N:ql w8 w9) (aE:w8.heap.size<=R/\R<w9.heap.size)
  (ar: ∀B O aa U Y,x.x43= θ #[γ B]->x.x45= .map (ϊ O)->x.x47= γ aa->x.x48= .map (ϊ U)->x.x49= .map (ϊ Y)->w9.heap[R]? =ϊ (.cells #[γ B,ι c.room,ι c.hold,ι c.wait,ι c.space,ι c.retry,ι c.most,ύ,.map (ϊ O),ι 0,γ RQ,γ aa,.map (ϊ U),.map (ϊ Y),(),(),ι 0,ι 0,ι 0,ι 0,ι 0] 95 (0,0))):
  ∃k,k.R=R/\qI w w9 k (ud c) []:=by
 obtain⟨B,b,aD,ag,aw,tb,al⟩:=H.bk rfl;obtain⟨O,ah,ax,am⟩:=H.rt rfl;obtain⟨aa,aA,aB,aC,ai,t1,t2,t3,t4,ap⟩:=H.tb rfl;obtain⟨U,aj,ay,an⟩:=H.ls rfl;obtain⟨Y,ak,az,ao⟩:=H.ss rfl;have au:=ar B O aa U Y ag ah ai aj ak;have aH:=H.more.size;have aq: ∀{q:Nat} {u:Tg},u≠ .no->T q=u->J.heap.size<=q/\q<w8.heap.size:=λad d=>H.fresh _ (by rw[d];exact ad)
 obtain⟨ab,M⟩: ∃ab:Nat->Tg,ab=λq=>if q=RQ∨q=AQ then Tg.queue else if q=R then Tg.room else T q:=⟨_,rfl⟩
 have I: ∀{q:Nat} {u:Tg},u≠ .no->T q=u->ab q=u:=λad d=>by
  have:=aq ad d;rw[M];simp only;rw[ώ τ,ώ τ];exact d
 have af:ql J w9:=H.more.trans N;refine⟨⟨R,O,RQ,AQ,aa,aA,aB,aC,B,b,U,Y,[],[]⟩,rfl,ab,δ ϋ 0 0,δ ϋ 0 0,⟨λu=> ?_,λq d=> ?_,λq d=>(by cases d),ae.trans af⟩⟩
 ·cases u with
  | no=>
   intro q d;rw[M];simp only;rw[ώ τ,ώ τ];cases e:T q<;>first | rfl | (exfalso;have:=(H.fresh q (by rw[e];simp)).2;omega)
  | junk=>trivial
  | data=>trivial
  | room=>
   refine⟨?_,au⟩;rw[M];simp only;rw[ώ τ];simp
  | ret=>exact⟨I η ax,am.more N⟩
  | queue=>
   have av:=d.more af;refine⟨by rw[M];simp,by rw[M];simp,0,[],0,0,0,0,_,av,trivial⟩
  | table=>exact⟨I η t1,I η t2,I η t3,I η t4,ap.more N⟩
  | book=>exact⟨I η aw,I η tb,al.more N⟩
  | lns=>exact⟨I η ay,an.more N⟩
  | sts=>exact⟨I η az,ao.more N⟩
  | pks=>exact⟨je.nil _ _ _ _ _ _,λg ac=>by cases ac⟩
  | reqs=>exact⟨je.nil _ _ _ _ _ _,λg ac=>by cases ac⟩
  | lane y=>exact⟨λp l h=>(by cases h),rfl⟩
  | str o=>exact⟨λp t h=>(by cases h),rfl⟩
 ·rw[M] at d;simp only at d;have:=ae.size;split at d
  ·rename_i e;rcases e with e | e<;>omega
  ·split at d
   ·omega
   ·have:=(H.fresh q d).1;omega
def Nt (c:CfR) (av:xY c=ό) (w:World):
  Calls prog 9 #[θ #[ι c.room,ι c.hold,ι c.wait,ι c.space,ι c.retry,ι c.most]] w λe w'=> ∃k,e= .returned (.tuple #[γ k.R,ι 0])/\qI w w' k (ud c) []/\ql w w':=by
 obtain⟨c1,c2,c3,c4⟩:=kF av;obtain⟨W1,N⟩:=ν (w.alloc (.cells #[ι c.room,ι c.hold,ι c.wait,ι c.space,ι c.retry,ι c.most] 25));have U:Hid (ql w W1):=κ (by rw[<-N];exact ql.alloc _ _);have d:Hid (W1.heap[w.heap.size]? =ϊ (.cells #[ι c.room,ι c.hold,ι c.wait,ι c.space,ι c.retry,ι c.most] 25 (0,0))):=κ (by rw[<-N];exact qj w _);have aL:=κ (ZK c.room c.room.toNat τ τ τ W1);have aJ:=κ (λw'=>YM c.hold c.wait w' c2);have af:=κ (λw'=>Qf c.space c.retry w');rw[Ϫ c3] at af;have aW:=β0 d.o;clear c1 c2 c3 av
 go_enter func9,ntmps9
 go_upto_region 1 with fail
 (try rw[N])
 clear N
 go_upto_region 9 with (first | (go_at_call 40;(go_call aL.o as e w2 ⟨rfl,ar,n2⟩;have ae:=κ ar;have aN:=κ n2;have aX:=β1 (qq n2 d.o);have aY:=β2 (qq n2 d.o);clear ar n2)) | (go_at_call 41;(go_call aJ.o _ as e bf ⟨rfl,_,ab,_⟩;have Y:=κ (aN.o.trans ab);have aO:=κ ab;have aZ:=β3 (qq Y.o d.o);have ba:=β4 (qq Y.o d.o);clear ab)) | (go_at_call 42;(go_call af.o _ as e w4 ⟨rfl,ac⟩;have H:=κ (Y.o.trans ac);have ah:=κ (aO.o.trans ac);have bb:=β5 (qq H.o d.o);clear ac)))
 have aC: ∀y:qt w4,y.w'.cell? ⟨w.heap.size,0,ϋ⟩=ϊ (ι c.room):=λy=>qm (qq (H.o.trans y.h) d.o) 0 rfl
 have aD: ∀y:qt w4,y.w'.cell? ⟨w.heap.size,1,ϋ⟩=ϊ (ι c.hold):=λy=>qm (qq (H.o.trans y.h) d.o) 1 rfl
 have aE: ∀y:qt w4,y.w'.cell? ⟨w.heap.size,2,ϋ⟩=ϊ (ι c.wait):=λy=>qm (qq (H.o.trans y.h) d.o) 2 rfl
 have aF: ∀y:qt w4,y.w'.cell? ⟨w.heap.size,3,ϋ⟩=ϊ (ι c.space):=λy=>qm (qq (H.o.trans y.h) d.o) 3 rfl
 have aG: ∀y:qt w4,y.w'.cell? ⟨w.heap.size,4,ϋ⟩=ϊ (ι c.retry):=λy=>qm (qq (H.o.trans y.h) d.o) 4 rfl
 have aH: ∀y:qt w4,y.w'.cell? ⟨w.heap.size,5,ϋ⟩=ϊ (ι c.most):=λy=>qm (qq (H.o.trans y.h) d.o) 5 rfl
 refine zB w4 12 (.op 2 ύ (.op 4 ύ (wy 5 ύ ύ ύ ύ ύ))) ξ ξ ?_
 iterate 2 (refine qH rfl rfl (qk ρ) ?_;intro K J;go_big_quiet_op;go_big_quiet_on)
 clear aC aD aE aF aG aH;refine Pn η ⟨_,_,_,rfl⟩ ⟨_,_,_,rfl⟩ ⟨_,_,_,rfl⟩ ⟨_,_,_,rfl⟩ ⟨_,_,_,rfl⟩ ⟨_,_,_,rfl⟩ _ (ql.drewN w4 1) ?_;intro x w8 T I;obtain⟨B,b,ak,am,_⟩:=I.bk rfl;obtain⟨ag,an,_⟩:=I.rt rfl;obtain⟨aB,bc,bd,be,ao,_⟩:=I.tb rfl;obtain⟨ai,ap,_⟩:=I.ls rfl;obtain⟨aj,aq,_⟩:=I.ss rfl;have aI:=κ I;have M:=κ I.more;clear I;obtain⟨x42,x43,x45,x47,x48,x49⟩:=x;simp only at ak am an ao ap aq;subst ak am an ao ap aq;unfold pA;simp only[Act.put];go_simp;refine qH rfl rfl (qk M.o) ?_;intro K J
 go_big_quiet_op
 go_big_quiet_on
 (refine qO rfl rfl ?_;intro K J;unfold jn;go_simp)
 refine⟨qk (M.o.al _),J _ _ ?_⟩;clear J K;obtain⟨w9,O⟩:=ν (w8.alloc (.cells #[γ B,ι c.room,ι c.hold,ι c.wait,ι c.space,ι c.retry,ι c.most,ύ,.map (ϊ ag),ι 0,γ (W1.heap.size+1),γ aB,.map (ϊ ai),.map (ϊ aj),(),(),ι 0,ι 0,ι 0,ι 0,ι 0] 95));have aa:Hid (ql w8 w9):=κ (by rw[<-O];exact ql.alloc _ _);have ad:Hid (w9.heap[w8.heap.size]? =ϊ (.cells #[γ B,ι c.room,ι c.hold,ι c.wait,ι c.space,ι c.retry,ι c.most,ύ,.map (ϊ ag),ι 0,γ (W1.heap.size+1),γ aB,.map (ϊ ai),.map (ϊ aj),(),(),ι 0,ι 0,ι 0,ι 0,ι 0] 95 (0,0))):=κ (by rw[<-O];exact qj w8 _)
 (try rw[O])
 clear O
 iterate 2 (refine qH rfl rfl (qk (M.o.trans aa.o)) ?_;intro K J;go_big_quiet_op;go_big_quiet_on)
 refine zg ?_;have aQ:=qn ae.o.ring;have aR:=ah.o.size;have aS:=U.o.size
 obtain⟨aT,aP,au⟩:=Ba (c:=c) (RQ:=W1.heap.size+1) (AQ:=W1.heap.size) (R:=w8.heap.size) (U.o.trans H.o) aI.o ⟨τ,τ⟩ ⟨τ,τ⟩ (ae.o.more ah.o) aa.o ⟨ϔ _,qn ad.o⟩ (λaU aV t' L' S' aw ax ay az aA=>by
  simp at aw ax ay az aA;subst aw ax ay az aA
  exact ad.o)
 have aM:=κ au;have aK:=κ (U.o.trans (H.o.trans (M.o.trans aa.o)));clear au aQ aR aS;go_wp2
 go_ret2
 exact⟨aT,by rw[aP];rfl,aM.o,aK.o⟩
def YL (c:CfR) (O:xY c=ύ) (w:World):
  Calls prog 9 #[θ #[ι c.room,ι c.hold,ι c.wait,ι c.space,ι c.retry,ι c.most]] w λe w'=>e= .returned (.tuple #[π ϋ,ι 1])/\ql w w':=by
 obtain⟨W1,H⟩:=ν (w.alloc (.cells #[ι c.room,ι c.hold,ι c.wait,ι c.space,ι c.retry,ι c.most] 25));have ac:Hid (ql w W1):=κ (by rw[<-H];exact ql.alloc _ _);have d:Hid (W1.heap[w.heap.size]? =ϊ (.cells #[ι c.room,ι c.hold,ι c.wait,ι c.space,ι c.retry,ι c.most] 25 (0,0))):=κ (by rw[<-H];exact qj w _);have ak:=β0 d.o;by_cases hr:c.room<1∨8<c.room
 ·have M:=κ (BJ c.room hr W1);clear hr O
  go_enter func9,ntmps9
  go_upto_region 1 with fail
  (try rw[H])
  clear H
  go_wp2_with ((go_at_call 40;(go_call M.o as e w2 ⟨rfl,n2⟩;have I:=κ n2;clear n2)))
  go_ret2
  exact⟨rfl,ac.o.trans I.o⟩
 ·have M:=κ (ZK c.room c.room.toNat τ τ τ W1);by_cases hj:Ok c.hold c.wait
  ·have ab:=κ (λw'=>YM c.hold c.wait w' hj);have aa:=κ (λw'=>Qf c.space c.retry w');by_cases ha:1<=c.space/\c.space<=c.retry/\c.retry<=1000
   ·rw[Ϫ ha] at aa;have ae:c.most<1∨10<c.most:=by
     simp[xY,hj,ha] at O;omega
    rcases ae with ae | ae
    all_goals
     clear hr O hj ha
     go_enter func9,ntmps9
     go_upto_region 1 with fail
     (try rw[H])
     clear H
     go_wp2_with (first | (go_at_call 40;(go_call M.o as e w2 ⟨rfl,N,n2⟩;have I:=κ n2;have af:=β1 (qq n2 d.o);have ag:=β2 (qq n2 d.o);clear N n2)) | (go_at_call 41;(go_call ab.o _ as e ah ⟨rfl,_,U,_⟩;have J:=κ (I.o.trans U);have ai:=β3 (qq J.o d.o);have aj:=β4 (qq J.o d.o);clear U)) | (go_at_call 42;(go_call aa.o _ as e w4 ⟨rfl,Y⟩;have ad:=κ (J.o.trans Y);have al:=β5 (qq ad.o d.o);clear Y)))
     go_ret2
     exact⟨rfl,ac.o.trans ad.o⟩
   ·rw[Ϩ ha] at aa;clear hr O hj ha
    go_enter func9,ntmps9
    go_upto_region 1 with fail
    (try rw[H])
    clear H
    go_wp2_with (first | (go_at_call 40;(go_call M.o as e w2 ⟨rfl,N,n2⟩;have I:=κ n2;have af:=β1 (qq n2 d.o);have ag:=β2 (qq n2 d.o);clear N n2)) | (go_at_call 41;(go_call ab.o _ as e ah ⟨rfl,_,U,_⟩;have J:=κ (I.o.trans U);have ai:=β3 (qq J.o d.o);have aj:=β4 (qq J.o d.o);clear U)) | (go_at_call 42;(go_call aa.o _ as e w4 ⟨rfl,Y⟩;have ad:=κ (J.o.trans Y);clear Y)))
    go_ret2
    exact⟨rfl,ac.o.trans ad.o⟩
  ·have ab:=κ (λw'=>Lq c.hold c.wait w' hj);clear hr O hj
   go_enter func9,ntmps9
   go_upto_region 1 with fail
   (try rw[H])
   clear H
   go_wp2_with (first | (go_at_call 40;(go_call M.o as e w2 ⟨rfl,N,n2⟩;have I:=κ n2;have af:=β1 (qq n2 d.o);have ag:=β2 (qq n2 d.o);clear N n2)) | (go_at_call 41;(go_call ab.o _ as e ah ⟨rfl,rfl⟩)))
   go_ret2
   exact⟨rfl,ac.o.trans I.o⟩
def RmR (w0 w:World) (R:Nat) (s:RmS) (F:List Nat):Prop:= ∃k:RmK,k.R=R/\qI w0 w k s F
section
variable {w0 w w':World} {R:Nat} {s s':RmS} {F F' Fn:List Nat} {n:Nat}
def RmR.on (h:RmR w0 w R s F) (m:ql w w'):RmR w0 w' R s F:=h.elim λk h=>⟨k,h.1,h.2.on m⟩
def RmR.sub (h:RmR w0 w R s F) (d: ∀b∈F',b∈F):RmR w0 w R s F':=h.elim λk h=>⟨k,h.1,h.2.sub d⟩
def RmR.adds (h:RmR w0 w R s F) (m:ql w w') (d: ∀b∈Fn,w.heap.size<=b/\b<w'.heap.size):RmR w0 w' R s (Fn++F):=h.elim λk h=>⟨k,h.1,h.2.adds m d⟩
def RmR.more (h:RmR w0 w R s F):ql w0 w:=h.elim λ_ h=>h.2.more
def RmR.stay (h:RmR w0 w R s F) (m:ql w w'):qw F w w':=h.elim λ_ h=>h.2.stay m
def RmR.lt (h:RmR w0 w R s F): ∀b∈F,b<w.heap.size:=λb d=>h.elim λ_ h=>(h.2.law b d).2
def RmR.bk (h:RmR w0 w R s F): ∃B b,w.cell? ⟨R,0,ϋ⟩=ϊ (π (ϊ ⟨B,0,ϋ⟩))/\jy w B b s.book:=by
 obtain⟨k,rfl,T,vp,d,h⟩:=h;exact⟨k.B,k.b,qm h.blk 0 rfl,h.bok⟩
def RmR.tkeys (h:RmR w0 w R s F):(s.tab.u.map Prod.fst).Nodup:=by
 obtain⟨k,rfl,T,vp,d,h⟩:=h;exact h.tab.mu.keys
def JN (c:CfR) (d:xY c=ό) (w:World):
  Calls prog 9 #[θ #[ι c.room,ι c.hold,ι c.wait,ι c.space,ι c.retry,ι c.most]] w λe w'=> ∃R,e= .returned (.tuple #[γ R,ι 0])/\RmR w w' R (ud c) []/\ql w w':=
 (Nt c d w).mono λ_ _ h=>h.elim λk h=>⟨k.R,h.1,⟨k,rfl,h.2.1⟩,h.2.2⟩
def MU (h:RmR w0 w R s F) (H:xY s.cfg=ό) (p s0 s1 s2:Int) (I:s.publish p s0 s1 s2=(s',a)):
  Calls prog 45 #[γ R,ι p,θ #[ω s0,ω s1,ω s2]] w λe w'=>e= .returned (ι a)/\RmR w0 w' R s' F/\qw F w w':=by
 obtain⟨k,rfl,h⟩:=h;refine(V0 h H p s0 s1 s2).mono ?_;rintro e w' ⟨k',J,rfl,d,t⟩;rw[I] at d ⊢;exact⟨rfl,⟨k',J,d⟩,t⟩
def Me (h:RmR w0 w R s F) (I:xY s.cfg=ό) (x d sq st:Int) (O:U16 sq) (N:U32 d) (J:s.join x d sq st=(s',a)):
  Calls prog 35 #[γ R,ι x,ω d,φ sq,ω st] w λe w'=>e= .returned (ι a)/\RmR w0 w' R s' F/\qw F w w':=by
 obtain⟨k,rfl,h⟩:=h;refine(Hr h I x d sq st O N).mono ?_;rintro e w' ⟨k',M,rfl,H,t⟩;rw[J] at H ⊢;exact⟨rfl,⟨k',M,H⟩,t⟩
def LQ (h:RmR w0 w R s F) (I:qV n s) (J:n<=100000) (x p m:Int) (H:s.subscribe x p m=(s',a)):
  Calls prog 46 #[γ R,ι x,ι p,ι m] w λe w'=>e= .returned (ι a)/\RmR w0 w' R s' F/\qw F w w':=by
 obtain⟨k,rfl,h⟩:=h;refine(XM h (I.subs J) x p m).mono ?_;rintro e w' ⟨rfl,d,t⟩;rw[H] at d ⊢;exact⟨rfl,⟨k,rfl,d⟩,t⟩
def LC (h:RmR w0 w R s F) (b:List Int) (v:Value) (N:SlI .u8 w v b) (H:Byt b) (M:b.length<=1000000) (J:0<=s.cnt.lost/\s.cnt.lost<=1000000000) (I:s.arrive b=(s',a)):
  Calls prog 33 #[γ R,v] w λe w'=>e= .returned (ι a)/\RmR w0 w' R s' F/\qw F w w':=by
 obtain⟨k,rfl,h⟩:=h;refine(Gf h b v N H M J).mono ?_;rintro e w' ⟨rfl,d,t⟩;rw[I] at d ⊢;exact⟨rfl,⟨k,rfl,d⟩,t⟩
def qaw (h:n<=1000):n<=100000:=Ϙ h ζ
def F7 (h:RmR w0 w R s F) (I:qV n s) (J:n<=100000) (w1 w2:Int) (acc:Bool) {a:Bool} (H:s.pick (w1,w2) acc=(s',a)):
  Calls prog 31 #[γ R,θ #[ι w1,ι w2],acc] w λe w'=>e= .returned (μ a)/\RmR w0 w' R s' F/\qw F w w':=by
 obtain⟨k,rfl,h⟩:=h;refine(Hq h I J w1 w2 acc).mono ?_;rintro e w' ⟨rfl,d,t⟩;rw[H] at d ⊢;exact⟨rfl,⟨k,rfl,d⟩,t⟩
def Ha (h:RmR w0 w R s F) (x:Int) {l:LnS} (d:s.ln x=l) {t:Bool} (H:(qh s.lanes x).isSome=t):Calls prog 24 #[γ R,ι x] w λe w'=>
  e= .returned (.tuple #[θ #[ι l.cur,ι l.tgt],θ #[ι l.A.length,ι l.B.length,ι l.C.length],l.gone,t])/\ql w w':=by
 obtain⟨k,rfl,T,vp,I,h⟩:=h;rw[<-d,<-H];exact MC h x
def YI (h:RmR w0 w R s F) {c:CnR} (d:s.cnt=c):Calls prog 19 #[γ R] w λe w'=>e= .returned (θ #[ι c.lost,ι c.malf,ι c.strange,ι c.told,ι c.acc])/\ql w w':=by
 obtain⟨k,rfl,h⟩:=h;rw[<-d];exact FF h
def Ly (h:RmR w0 w R s F) (H:qV n s) (I:n<=100000) {a:AcS} (d:s.pks[i]? =ϊ a):
  Calls prog 15 #[γ R,ι (i:Int)] w λe w'=> ∃os oe ol ks ke kl,e= .returned (.tuple #[(Γi a.o.1 a.o.2 a.num a.pk os ks oe ke ol kl),ό])/\PkS w' (δ os a.pk.ss.length ks) (δ oe a.pk.ex.length ke) (δ ol a.pk.pl.length kl) a.pk/\ql w w':=by
 obtain⟨k,rfl,T,vp,J,h⟩:=h;obtain⟨hi,e⟩:=ϟ.1 d;exact FE h (λa d=>(H.num.pkok a d).2.1) (H.rd I).pks hi e
def MO (h:RmR w0 w R s F) (x:Int) (d:(s.ln x).W.length<=1000000):Calls prog 14 #[γ R,ι x] w λe w'=>(∃v,e= .returned v/\je 2 (ROn w.heap.size) (λb=>b<w.heap.size) w' w.heap.size 56 v (s.ln x).W)/\ql w w':=by
 obtain⟨k,rfl,T,vp,H,h⟩:=h;exact CA h x d
end
def SlI.addr {k:IntKind} {H:Option Addr} {l:List Int} (h:SlI k w (δ H n cap) l) (M:0<l.length): ∃b d,H=ϊ ⟨b,d,ϋ⟩/\b<w.heap.size/\n=l.length:=by
 obtain⟨O,N,e,_,I,_⟩:=h;injection e with e1 e2 e3
 subst e1 e2 e3;obtain⟨b,d,rfl,J,_⟩:=I 0 M;exact⟨b,d,rfl,J,rfl⟩
section
variable {w00 w0 w w':World} {R:Nat} {s:RmS} {F Fn:List Nat}
def RmR.based (h:RmR w0 w R s F) (m:ql w00 w0) (I: ∀b∈Fn,w00.heap.size<=b/\b<w0.heap.size):RmR w00 w R s (Fn++F):=by
 obtain⟨k,rfl,T,vp,N,h⟩:=h;refine⟨k,rfl,T,vp,N,h.all,λb I=>Ϙ m.size (h.ge b I),λb M=> ?_,m.trans h.more⟩;rcases ϯ.1 M with e | e
 ·obtain⟨d,H⟩:=I b e;refine⟨?_,d,ϗ H h.more.size⟩;refine P9 λc=> ?_
  have:=h.ge b c;omega
 ·obtain⟨d,H,J⟩:=h.law b e;exact⟨d,Ϙ m.size H,J⟩
def RmR.mut (h:RmR w0 w R s F) (a:jt (λb=>b∈F) w w'):RmR w0 w' R s F:=by
 obtain⟨k,rfl,T,vp,d,h⟩:=h;exact⟨k,rfl,T,vp,d,h.mut a⟩
def RmR.mutA (h:RmR w0 w R s F) (a:jt (λb=>b∈F) w w') (I: ∀b∈Fn,b∈F∨w.heap.size<=b/\b<w'.heap.size):RmR w0 w' R s (Fn++F):=by
 obtain⟨k,rfl,T,vp,J,h⟩:=h;have d:=h.mut a;refine⟨k,rfl,T,vp,J,d.all,d.ge,λb H=> ?_,d.more⟩;rcases ϯ.1 H with e | e
 ·rcases I b e with f | f
  ·exact d.law b f
  ·exact⟨h.fresh b f.1,Ϙ h.more.size f.1,f.2⟩
 ·exact d.law b e
end
structure V7 (w:World) (W B:Nat) (jo pu:Int->Int) (sf:Og->Option Int):Prop where
 ex: ∃cs L,w.heap[W]? =ϊ (.cells cs 49 (0,0))/\cs.size=91/\cs[90]? =ϊ (.map (ϊ B))/\(∀k:Nat,k<6->cs[k* 14+8]? =ϊ (.int .u32 (jo k))/\cs[84+k]? =ϊ (.int .i64 (pu k)))/\jk w B kO (Value.int .u32) L/\(∀o,qh L o=sf o)
 ne:W≠B
section
variable {w w':World} {W B:Nat} {jo pu:Int->Int} {sf:Og->Option Int}
def V7.away (h:V7 w W B jo pu sf) (m:jt S w w') (H: ¬S W) (I: ¬S B):V7 w' W B jo pu sf:=by
 obtain⟨⟨cs,L,a,b,c,d,e,f⟩,g⟩:=h;exact⟨⟨cs,L,by rw[m.block W (qn a) H];exact a,b,c,d,e.away m I,f⟩,g⟩
def V7.more (h:V7 w W B jo pu sf) (m:ql w w'):V7 w' W B jo pu sf:=h.away (jt.of_more (S:=λ_=>False) m) (λx=>x) (λx=>x)
def V7.pub (h:V7 w W B jo pu sf) (k:Nat) (H:k<6):w.cell? ⟨W,84+k,ϋ⟩=ϊ (ι (pu k))/\w.frozen? ⟨W,84+k,ϋ⟩=ύ:=by
 obtain⟨⟨cs,L,a,b,c,d,e,f⟩,g⟩:=h;exact⟨qm a _ (d k H).2,yw a _⟩
def V7.setPub (h:V7 w W B jo pu sf) (k:Nat) (M:k<6) (v:Int):V7 (w.setCell ⟨W,84+k,ϋ⟩ (ι v)) W B jo (λx=>if x=k then v else pu x) sf:=by
 obtain⟨⟨cs,L,a,b,c,d,e,f⟩,g⟩:=h;refine⟨⟨_,L,qp a (84+k) _, ?_, ?_,λj J=> ?_,e.away ((jt.refl (λb=>b=W) w).set rfl _) (λx=>g x.symm),f⟩,g⟩
 ·rw[Array.size_setIfInBounds];exact b
 ·rw[C8 τ];exact c
 ·obtain⟨H,I⟩:=d j J;refine⟨by rw[C8 τ];exact H, ?_⟩;by_cases q:j=k
  ·subst q;rw[ϐ rfl,O5,ϐ rfl,ϐ τ]
  ·rw[C8 τ,ώ τ];exact I
def Ta (cur d:List Value) (o i:Nat) (h:o+d.length<=cur.length):(xQ cur o d)[i]? =if i<o then cur[i]? else if i<o+d.length then d[i-o]? else cur[i]? :=by
 unfold xQ;have H:(cur.take o).length=o:=by rw[Ϡ];omega
 by_cases h1:i<o
 ·rw[ϐ h1,ϭ,Θ τ,J5 h1]
 ·rw[ώ h1];by_cases h2:i<o+d.length
  ·rw[ϐ h2,Θ (by rw[Ϗ];omega),Γ τ,H]
  ·rw[ώ h2,Γ (by rw[Ϗ];omega),Ϗ,H,D0]
   congr 1
   omega
def V7.join {cs:Array Value} {L:List (Og×Int)} (a:w.heap[W]? =ϊ (.cells cs 49 (0,0))) (b:cs.size=91) (c:cs[90]? =ϊ (.map (ϊ B))) (J: ∀k:Nat,k<6->cs[k* 14+8]? =ϊ (ω (jo k))/\cs[84+k]? =ϊ (ι (pu k)))
  (e:jk w B kO (Value.int .u32) L) (f: ∀o,qh L o=sf o) (g:W≠B) (k:Nat) (Y:k<6) (d:List Value) (O:d.length=14) {o:Int} (U:d[8]? =ϊ (ω o)):
  V7 (w.setRow W (xQ cs.toList (k* 14) d).toArray) W B (λx=>if x=k then o else jo x) pu sf:=by
 have aa:cs.toList.length=91:=b;have H: ∀i:Nat,(xQ cs.toList (k* 14) d).toArray[i]? =if i<k* 14 then cs[i]? else if i<k* 14+14 then d[i-k* 14]? else cs[i]? :=λi=>by
  rw[A4,Ta _ _ _ _ τ,O,T5]
 refine⟨⟨_,L,jM a _, ?_, ?_,λj N=> ?_,e.away (jt.setRow w W _) (λx=>g x.symm),f⟩,g⟩
 ·show (xQ cs.toList (k* 14) d).length=91;unfold xQ;simp only[Ϗ,Ϡ,Ϣ];omega
 ·rw[H,ώ τ,ώ τ];exact c
 ·obtain⟨I,M⟩:=J j N;refine⟨?_,by rw[H,ώ τ,ώ τ];exact M⟩;rw[H];by_cases q:j=k
  ·subst q;rw[ώ τ,ϐ τ,ϐ rfl,show j* 14+8-j* 14=8 by omega];exact U
  ·rw[ώ (show ¬(j:Int)=(k:Int) by omega)];split
   ·exact I
   ·rw[ώ τ];exact I
end
def Td (w:World):Calls prog 11 #[] w λe w'=> ∃W B,e= .returned (γ W)/\(w.heap.size<=W/\W<w'.heap.size)/\(w.heap.size<=B/\B<w'.heap.size)/\V7 w' W B (λ_=>0) (λ_=> -1) (λ_=>ϋ)/\ql w w':=by
 have aa:= @run_makeMap prog
 go_enter func11,ntmps11
 go_wp2
 go_loopw [6] (λi O=> ∃y:Nat,y<=6/\i= ι y/\V7 O (w.heap.size+1) w.heap.size (λ_=>0) (λk=>if k<y then -1 else 0) (λ_=>ϋ)/\ql w O) (λi _=>6-(intOf i).toNat)
 case atStart=>
  refine⟨0,τ,rfl,⟨⟨_,[],qC η,rfl,rfl,λk H=> ?_,(jk.made w _ _).more X8,λ_=>rfl⟩,τ⟩,X8.al _⟩;have:k=0∨k=1∨k=2∨k=3∨k=4∨k=5:=by omega
  rcases this with rfl | rfl | rfl | rfl | rfl | rfl<;>exact⟨rfl,rfl⟩
 case round=>
  obtain⟨y,ab,rfl,M,N⟩:=hrel;have d:=κ M;have I:=κ N;clear M N;by_cases hlt:y<6
  ·have Y:(y:Int)<6:=by omega
   obtain⟨c,f⟩:=d.o.pub y hlt;go_wp2;go_roundw
   case rel=>
    refine⟨y+1,τ,by go_num, ?_,I.o.st η _⟩;have e:(λk:Int=>if k<((y+1:Nat):Int) then (-1:Int) else 0)=λx=>if x=(y:Int) then -1 else if x<(y:Int) then -1 else 0:=by
     funext k
     by_cases q:k=(y:Int)
     ·rw[ϐ q,ϐ τ]
     ·rw[ώ q];by_cases q2:k<(y:Int)
      ·rw[ϐ q2,ϐ τ]
      ·rw[ώ q2,ώ τ]
    rw[e];exact d.o.setPub y hlt (-1)
   case measure=>simp[intOf];omega
  ·obtain rfl:y=6:=by omega
   have Y: ¬((6:Nat):Int)<6:=by omega
   go_wp2;go_ret;have U:w.heap.size+1<wr.heap.size:=by
    obtain⟨cs,L,a,_⟩:=d.o.ex;exact qn a
   refine⟨w.heap.size+1,rfl,⟨τ,U⟩,w.heap.size,⟨τ,τ⟩,⟨?_,τ⟩,I.o⟩;obtain⟨cs,L,a,b,c,J,e,f⟩:=d.o.ex;refine⟨cs,L,a,b,c,λk H=>⟨(J k H).1, ?_⟩,e,f⟩;rw[(J k H).2,ϐ τ]
def V7.congr {I pu':Int->Int} (h:V7 w W B H I sf) (M: ∀k:Nat,k<6->pu' k=I k) (N: ∀o,sf' o=sf o):V7 w W B H pu' sf':=by
 obtain⟨⟨cs,L,a,b,c,J,e,f⟩,g⟩:=h;exact⟨⟨cs,L,a,b,c,λk d=>by rw[M k d];exact J k d,e,λo=>(f o).trans (N o).symm⟩,g⟩
def V7.stay {d:Int->Int} (h:V7 w W B d H sf) (t:qw F w w') (N:W∈F) (O:B∈F):V7 w' W B d H sf:=by
 obtain⟨⟨cs,L,a,b,c,J,e,f⟩,g⟩:=h;obtain⟨⟨M,I,U,r⟩,Y⟩:=e;exact⟨⟨cs,L,(t.2 W N).trans a,b,c,J,⟨⟨M,I,(t.2 B O).trans U,r⟩,Y⟩,f⟩,g⟩
def RU (sf:Og->Option Int) (p:Int) (v:List Int):Nat->Og->Option Int
 | 0,o=>sf o
 | y+1,o=>if o=(p,(y:Int)) then ϊ (v.getD y 0) else RU sf p v y o
def OG (pu:Int->Int) (s:RmS) (y:Nat):Int->Int:=λx=>if 0<=x/\x<y/\(s.ln x).gone=ό then -1 else pu x
def RH (d:Int->Int) (s:RmS) (y:Nat):OG d s (y+1)=λx=>if x=(y:Int) then (if (s.ln (y:Int)).gone=ό then -1 else d x) else OG d s y x:=by
 funext x
 unfold OG;by_cases e:x=(y:Int)
 ·subst e;rw[ϐ rfl];by_cases g:(s.ln (y:Int)).gone=ό
  ·rw[ϐ g,ϐ ⟨τ,τ,g⟩]
  ·rw[ώ g,ώ (λc=>g c.2.2)]
 ·rw[ώ e];by_cases g:0<=x/\x<(y:Int)/\(s.ln x).gone=ό
  ·rw[ϐ g,ϐ ⟨g.1,τ,g.2.2⟩]
  ·rw[ώ g,ώ (λc=>g ⟨c.1,τ,c.2.2⟩)]
def Oi (pu:Int->Int) (a:A22) (e:Int):Int->Int:=λx=>if e=0/\a.act=5/\x=a.sub then a.pub else if e=0/\a.act=7/\x=a.sub then -1 else pu x
def Oc {g t:Nat} (h:w.heap[g]? =ϊ (.cells cs.toArray t (0,0))) (o n:Nat):w.rangeAt g o ((cs.drop o).take n):=λj v d=>by
 have:=xy h (o+j) v (by
  rw[ο] at d;split at d
  ·rwa [D0] at d
  ·cases d)
 rwa [E9] at this
def TX {I:World} (h:RmR I w R s F) (x:Int) {g:Bool} (H:(s.ln x).gone=g):Calls prog 24 #[γ R,ι x] w λe w'=>
  ∃c1 c2 a b c t,e= .returned (.tuple #[θ #[ι c1,ι c2],θ #[ι a,ι b,ι c],g,t])/\ql w w':=
 (Ha h x rfl rfl).mono λe w' d=>⟨_,_,_,_,_,_,by rw[<-H];exact d.1,d.2⟩
def TR {bk:World} {Y O:Int->Int} (h:RmR bk w R s F) (bc:W∈F) (bb:B∈F) (bd:V7 w W B Y O sf) (x:A22) (ab:Option Addr) (aa:Nat) (e:Int) (aM:e=0->4<=x.act->x.act<=7->0<=x.sub/\x.sub<6):
  Calls prog 13 #[γ W,γ R,θ #[ι x.act,ι x.sub,ι x.pub,ι x.layer,δ ab x.b.length aa,ι x.w.1,ι x.w.2,x.acc,ω x.own,ω x.stamp,φ x.seq,ω x.s0,ω x.s1,ω x.s2],ι e] w λbw w'=>bw= .returned (.tuple #[])/\V7 w' W B (MR Y x e) (NY O x e s) (NX sf x e)/\RmR bk w' R s F/\jt (λb=>b=W∨b=B) w w':=by
 obtain⟨act,sub,pub,H,d,⟨I,J⟩,acc,own,st,sq,s0,s1,s2⟩:=x
 dsimp only at aM ⊢
 have bF:=h.lt W bc;have bE:=h.lt B bb;have av:=ql.alloc w (.cells #[ι act,ι sub,ι pub,ι H,δ ab d.length aa,ι I,ι J,acc,ω own,ω st,φ sq,ω s0,ω s1,ω s2] 42);have aJ:=qj w (.cells #[ι act,ι sub,ι pub,ι H,δ ab d.length aa,ι I,ι J,acc,ω own,ω st,φ sq,ω s0,ω s1,ω s2] 42);obtain⟨w1,bg⟩:=ν (w.alloc (.cells #[ι act,ι sub,ι pub,ι H,δ ab d.length aa,ι I,ι J,acc,ω own,ω st,φ sq,ω s0,ω s1,ω s2] 42));rw[bg] at av aJ;have bp:=κ (h.on av);have ag:=κ (bd.more av);have ae:=κ aJ;have bv:=κ av;have aU:=κ aM;clear h bd av aJ aM;have bC:=β0 ae.o;have bD:=β1 ae.o;have aA:=κ (show w.heap.size≠W/\w.heap.size≠B by omega)
 go_enter func13,ntmps13
 go_upto_region 1 with ((try rw[bg]);fail)
 obtain⟨q,be⟩:=ν (decide (e=0/\4<=act/\act<=7));have af:=κ be;clear be
 go_cut [26] from 15 to 26 (λv ac=>v= μ q/\w1=ac)
 case first=>
  by_cases c0:e=0
  ·subst c0;by_cases c4:(4:Int)<=act
   ·by_cases aB:act<=7
    ·go_wp2;go_meet;exact⟨by rw[<-af.o];simp[c4,aB],rfl⟩
    ·go_wp2;go_meet;exact⟨by rw[<-af.o];simp[c4,aB],rfl⟩
   ·go_wp2;go_meet;exact⟨by rw[<-af.o];simp[show ¬(4:Int)<=act by omega],rfl⟩
  ·go_wp2;go_meet;exact⟨by rw[<-af.o];simp[c0],rfl⟩
 case rest=>
 obtain⟨rfl,rfl⟩:=hcut
 go_upto_if 26 with fail
 go_cut [] from 27 to 55 (λac=>V7 ac W B (MR Y ⟨act,sub,pub,H,d,(I,J),acc,own,st,sq,s0,s1,s2⟩ e) (Oi O ⟨act,sub,pub,H,d,(I,J),acc,own,st,sq,s0,s1,s2⟩ e) sf/\jt (λb=>b=W∨b=B) w1 ac)
 case first=>
  cases q
  case true=>
   obtain⟨rfl,c4,aB⟩:=Ϛ af.o;obtain⟨bh,bA⟩:=aU.o rfl c4 aB;obtain⟨k,aC⟩:=Ϻ bh;have au:k<6:=by omega
   subst aC;have aW: ∀y:qt w1,y.w'.cell? ⟨w.heap.size,0,ϋ⟩=ϊ (ι act):=λy=>qm (qq y.h ae.o) 0 rfl
   have aX: ∀y:qt w1,y.w'.cell? ⟨w.heap.size,1,ϋ⟩=ϊ (ι (k:Int)):=λy=>qm (qq y.h ae.o) 1 rfl
   have bB: ∀y:qt w1,y.w'.cell? ⟨w.heap.size,2,ϋ⟩=ϊ (ι pub):=λy=>qm (qq y.h ae.o) 2 rfl
   clear bh bA;by_cases a4:act=4
   ·subst a4;obtain⟨⟨cs,L,am,an,ao,aw,ax,ay⟩,ap⟩:=ag.o;have aI:=κ am;clear am
    go_wp2_with fail
    refine Qn w1 7 8 [4,5,7] ?_
    refine Qq3 ?_
    refine jh rfl rfl (qk ρ) 42 (.tmp 6) rfl w.heap.size 0 rfl [ι 4,ι (k:Int),ι pub,ι H,δ ab d.length aa,ι I,ι J,acc,ω own,ω st,φ sq,ω s0,ω s1,ω s2] _ (λw' bx=>by obtain⟨y,rfl⟩:=bx;exact xy (qq y.h ae.o)) underlying42 rfl ξ ?_;intro K M
    go_big_quiet_on
    (refine Ql ?_;intro K M)
    refine⟨qk ρ,M _ _ ?_⟩;clear M K
    (refine Ql ?_;intro K M)
    refine⟨qk ρ,M _ _ ?_⟩;clear M K
    refine Qq1 ?_
    refine zY rfl rfl ζ ?_;intro K M;refine zF 42 (.tmp 37) (.tmp 34) rfl W (k* 14) 49 cs [ι 4,ι (k:Int),ι pub,ι H,δ ab d.length aa,ι I,ι J,acc,ω own,ω st,φ sq,ω s0,ω s1,ω s2] rfl rfl (qr aI.o 1) (by simp[an];omega) ξ X9 ⟨trivial,M _ _ ?_⟩;refine qA ?_;have ad:=V7.join (w:=w1.drewN 1) (qr aI.o 1) an ao aw (ax.more (ql.drewN w1 1)) ay ap k au [ι 4,ι (k:Int),ι pub,ι H,δ ab d.length aa,ι I,ι J,acc,ω own,ω st,φ sq,ω s0,ω s1,ω s2] rfl rfl;have N:=κ ad;have bm:Hid (jt (λb=>b=W∨b=B) w1 ((w1.drewN 1).setRow W (xQ cs.toList (k* 14) [ι 4,ι (k:Int),ι pub,ι H,δ ab d.length aa,ι I,ι J,acc,ω own,ω st,φ sq,ω s0,ω s1,ω s2]).toArray)):=κ ((jt.of_more (ql.drewN w1 1)).trans ((jt.setRow _ _ _).mono λb aq=>ϑ aq));clear ad;generalize (w1.drewN 1).setRow W (xQ cs.toList (k* 14) [ι 4,ι (k:Int),ι pub,ι H,δ ab d.length aa,ι I,ι J,acc,ω own,ω st,φ sq,ω s0,ω s1,ω s2]).toArray=W2 at *;clear an ao aw ax ay ap aI
    go_wp2_with fail
    go_meet;exact⟨by delta MR Oi;simpa using N.o,bm.o⟩
   ·by_cases a5:act=5
    ·subst a5;have aE:=κ ((ag.o.more (ql.drewN w1 1)).pub k au);have N:=κ ((ag.o.more (ql.drewN w1 1)).setPub k au pub);clear a4
     go_wp2_with fail
     refine Qn w1 8 9 [5,6,8] ?_
     refine Qq5 ?_
     (refine Ql ?_;intro K M)
     refine⟨qk ρ,M _ _ ?_⟩;clear M K
     (refine Ql ?_;intro K M)
     refine⟨qk ρ,M _ _ ?_⟩;clear M K
     refine Qq1 ?_
     obtain⟨c,f⟩:=aE.o
     (refine Qe ?_;intro K M)
     refine M _ _ ?_;clear M K;refine qA ?_
     go_wp2_with fail
     go_meet;exact⟨by delta MR Oi;simpa using N.o,(jt.of_more (ql.drewN w1 1)).set (ϑ rfl) _⟩
    ·by_cases a7:act=7
     ·subst a7;have aE:=κ ((ag.o.more (ql.drewN w1 1)).pub k au);have N:=κ ((ag.o.more (ql.drewN w1 1)).setPub k au (-1));clear a4 a5
      go_wp2_with fail
      refine Qn w1 6 7 [3,4,6] ?_
      refine Qq3 ?_
      (refine Ql ?_;intro K M)
      refine⟨qk ρ,M _ _ ?_⟩;clear M K
      (refine Ql ?_;intro K M)
      refine⟨qk ρ,M _ _ ?_⟩;clear M K
      refine Qq1 ?_
      obtain⟨c,f⟩:=aE.o
      (refine Qe ?_;intro K M)
      refine M _ _ ?_;clear M K;refine qA ?_
      go_wp2_with fail
      go_meet;exact⟨by delta MR Oi;simpa using N.o,(jt.of_more (ql.drewN w1 1)).set (ϑ rfl) _⟩
     ·go_wp2_with fail
      go_meet;exact⟨by delta MR Oi;simpa [a4,a5,a7] using ag.o,jt.refl _ _⟩
  case false=>
   have ak: ¬(e=0/\4<=act/\act<=7):=A5 af.o;have aZ:MR Y ⟨act,sub,pub,H,d,(I,J),acc,own,st,sq,s0,s1,s2⟩ e=Y:=by
    funext y
    exact ώ (λc=>ak ⟨c.2.1,by have:act=4:=c.1;omega,by have:act=4:=c.1;omega⟩)
   have ba:Oi O ⟨act,sub,pub,H,d,(I,J),acc,own,st,sq,s0,s1,s2⟩ e=O:=by
    funext y
    exact(ώ (λc=>ak ⟨c.1,by have:act=5:=c.2.1;omega,by have:act=5:=c.2.1;omega⟩)).trans (ώ (λc=>ak ⟨c.1,by have:act=7:=c.2.1;omega,by have:act=7:=c.2.1;omega⟩))
   have N:=κ (show V7 w1 W B (MR Y ⟨act,sub,pub,H,d,(I,J),acc,own,st,sq,s0,s1,s2⟩ e) (Oi O ⟨act,sub,pub,H,d,(I,J),acc,own,st,sq,s0,s1,s2⟩ e) sf/\jt (λb=>b=W∨b=B) w1 w1 from by rw[aZ,ba];exact⟨ag.o,jt.refl _ _⟩);clear ak aZ ba
   go_wp2_with fail
   go_meet;exact N.o
 case rest=>
 obtain⟨ar,U⟩:=hcut;have aG:=κ ar;have aD:=κ U;clear ar U;obtain⟨bj,bf⟩: ∃q,decide (e=0/\act=3)=q:=⟨_,rfl⟩;have ai:=κ bf;clear bf af aU;have az:=κ (aD.o.blk ae.o (λc=>c.elim aA.o.1 aA.o.2));have bo:=β0 az.o
 go_upto_region 9 with fail
 go_cut [62] from 56 to 62 (λv ac=>v= μ bj/\wc=ac)
 case first=>
  by_cases c0:e=0
  ·subst c0;by_cases c3:act=3
   ·subst c3;go_wp2;go_meet;exact⟨by rw[<-ai.o];rfl,rfl⟩
   ·go_wp2;go_meet;exact⟨by rw[<-ai.o];simp[c3],rfl⟩
  ·go_wp2;go_meet;exact⟨by rw[<-ai.o];simp[c0],rfl⟩
 case rest=>
 obtain⟨rfl,rfl⟩:=hcut
 go_upto_if 62 with fail
 go_cut [] from 63 to 78 (λac=>V7 ac W B (MR Y ⟨act,sub,pub,H,d,(I,J),acc,own,st,sq,s0,s1,s2⟩ e) (Oi O ⟨act,sub,pub,H,d,(I,J),acc,own,st,sq,s0,s1,s2⟩ e) (NX sf ⟨act,sub,pub,H,d,(I,J),acc,own,st,sq,s0,s1,s2⟩ e)/\jt (λb=>b=W∨b=B) wc ac)
 case first=>
  cases bj
  case true=>
   obtain⟨rfl,rfl⟩:=Ϛ ai.o
   go_wp2_with (refine wpList_load_mid rfl 40 (.tmp 63) rfl w.heap.size 11 rfl [ω s0,ω s1,ω s2] _ (Oc az.o 11 3) underlying40 rfl ξ ?_)
   go_loopw [65] (λi wr=> ∃y:Nat,y<=3/\i= ι y/\V7 wr W B (MR Y ⟨3,sub,pub,H,d,(I,J),acc,own,st,sq,s0,s1,s2⟩ 0) (Oi O ⟨3,sub,pub,H,d,(I,J),acc,own,st,sq,s0,s1,s2⟩ 0) (RU sf pub [s0,s1,s2] y)/\jt (λb=>b=W∨b=B) wc wr) (λi _=>3-(intOf i).toNat)
   case atStart=>exact⟨0,τ,rfl,aG.o,jt.refl _ _⟩
   case round=>
    obtain⟨y,bz,rfl,ad,U⟩:=hrel;have N:=κ ad;have ah:=κ U;clear ad U;by_cases hlt:y<3
    ·have aO:(y:Int)<3:=by omega
     have bG:=λw=>Hy s0 s1 s2 y hlt w
     have bs:Hid (RU sf pub [s0,s1,s2] (y+1)=λo=>if o=(pub,(y:Int)) then ϊ ([s0,s1,s2].getD y 0) else RU sf pub [s0,s1,s2] y o):=κ rfl;generalize [s0,s1,s2].getD y 0=v at *;obtain⟨⟨cs,L,am,an,ao,aw,ax,ay⟩,ap⟩:=N.o;have bn:=κ (ah.o.blk az.o (λc=>c.elim aA.o.1 aA.o.2));obtain⟨w9,aL,aj,aN,_⟩:=(ax.more (ql.drewN wr 1)).update Yr underlying47 (pub,(y:Int)) v;unfold kO at aL;simp only at aL;have aV:Hid (V7 w9 W B (MR Y ⟨3,sub,pub,H,d,(I,J),acc,own,st,sq,s0,s1,s2⟩ 0) (Oi O ⟨3,sub,pub,H,d,(I,J),acc,own,st,sq,s0,s1,s2⟩ 0) (RU sf pub [s0,s1,s2] (y+1))/\jt (λb=>b=W∨b=B) wr w9):=κ ⟨⟨⟨cs,_,aN.blk (qr am 1) ap,an,ao,aw,aj,λo=>by rw[bs.o,qF,ay]⟩,ap⟩,(jt.of_more (ql.drewN wr 1)).trans (aN.mono λb aq=>ϕ aq)⟩;have aW: ∀x:qt wr,x.w'.cell? ⟨W,90,ϋ⟩=ϊ (.map (ϊ B)):=λx=>qm (qq x.h am) 90 ao
     have aX:=λ(x:qt wr)=>β2 (qq x.h bn.o)
     clear aj aN am an ao aw ax ay ap
     go_wp2_with fail
     refine Qn wr 9 10 [9] ?_
     refine Qq9 ?_
     (refine Qe ?_;intro K M)
     refine M _ _ ?_;clear M K;refine qA ?_;clear aW aX aL;go_wp2;go_roundw
     case rel=>exact⟨y+1,τ,by go_num,aV.o.1,ah.o.trans aV.o.2⟩
     case measure=>simp[intOf];omega
    ·obtain rfl:y=3:=by omega
     have aO: ¬((3:Nat):Int)<3:=by omega
     have bt:=κ (N.o.congr (sf':=NX sf ⟨3,sub,pub,H,d,(I,J),acc,own,st,sq,s0,s1,s2⟩ 0) (λ_ _=>rfl) (λo=>by simp[NX,RU]))
     go_wp2_with fail
     go_meet;exact⟨bt.o,ah.o⟩
  case false=>
   have ak: ¬(e=0/\act=3):=A5 ai.o;have N:=κ (aG.o.congr (sf':=NX sf ⟨act,sub,pub,H,d,(I,J),acc,own,st,sq,s0,s1,s2⟩ e) (λ_ _=>rfl) (λo=>ώ ak))
   go_wp2_with fail
   go_meet;exact⟨N.o,jt.refl _ _⟩
 case rest=>
  obtain⟨ar,U⟩:=hcut;have aR:=κ ar;have aP:=κ (aD.o.trans U);clear ar U;have bq:Hid (∀k:Nat,k<6->NY O ⟨act,sub,pub,H,d,(I,J),acc,own,st,sq,s0,s1,s2⟩ e s k=OG (Oi O ⟨act,sub,pub,H,d,(I,J),acc,own,st,sq,s0,s1,s2⟩ e) s 6 k):=κ λk aC=>by
   unfold NY OG Oi;by_cases g:(s.ln (k:Int)).gone=ό
   ·rw[ϐ g,ϐ ⟨τ,τ,g⟩]
   ·rw[ώ g];exact(ώ (λc=>g c.2.2)).symm
  go_wp2_with fail
  go_loopw [79] (λi wr=> ∃y:Nat,y<=6/\i= ι y/\V7 wr W B (MR Y ⟨act,sub,pub,H,d,(I,J),acc,own,st,sq,s0,s1,s2⟩ e) (OG (Oi O ⟨act,sub,pub,H,d,(I,J),acc,own,st,sq,s0,s1,s2⟩ e) s y) (NX sf ⟨act,sub,pub,H,d,(I,J),acc,own,st,sq,s0,s1,s2⟩ e)/\jt (λb=>b=W∨b=B) w1 wr) (λi _=>6-(intOf i).toNat)
  case atStart=>exact⟨0,τ,rfl,aR.o.congr (λk aC=>ώ τ) (λ_=>rfl),aP.o⟩
  case round=>
   clear aR aP aG aD az bo ai;obtain⟨y,bz,rfl,ad,U⟩:=hrel;have N:=κ ad;have ah:=κ U;have aT:=κ (bp.o.mut (U.mono λb aq=>aq.elim (λe=>e▸bc) λe=>e▸bb));clear ad U;by_cases hlt:y<6
   ·have aO:(y:Int)<6:=by omega
    have aF:=κ (RH (Oi O ⟨act,sub,pub,H,d,(I,J),acc,own,st,sq,s0,s1,s2⟩ e) s y);obtain⟨g,aK⟩:=ν ((s.ln (y:Int)).gone);have aS:=κ (TX aT.o (y:Int) aK);rw[aK] at aF;clear aK
    go_upto_region 19 with ((go_at_call 24;(go_call aS.o as e bl ⟨c1,c2,a,b,c,t,rfl,bi⟩;have aY:=κ bi;clear bi)))
    have aj:=aY.o.trans ((ql.alloc bl (.cells #[ι c1,ι c2] 103)).al (.cells #[ι a,ι b,ι c] 104));generalize (bl.alloc (.cells #[ι c1,ι c2] 103)).alloc (.cells #[ι a,ι b,ι c] 104)=W8 at *;have aH:=κ (N.o.more aj);have aQ:Hid (jt (λb=>b=W∨b=B) w1 W8):=κ (ah.o.trans (jt.of_more aj));clear aj aY aS;cases g with
    | false=>
     go_wp2;go_roundw
     case rel=>exact⟨y+1,τ,by go_num,by rw[aF.o];exact aH.o.congr (λk aC=>by by_cases e:(k:Int)=y<;>simp[e,OG]) (λ_=>rfl),aQ.o⟩
     case measure=>simp[intOf];omega
    | true=>
     obtain⟨c,f⟩:=aH.o.pub y hlt;have br:=κ (aH.o.setPub y hlt (-1));go_wp2;go_roundw
     case rel=>exact⟨y+1,τ,by go_num,by rw[aF.o];simpa using br.o,aQ.o.set (ϑ rfl) _⟩
     case measure=>simp[intOf];omega
   ·obtain rfl:y=6:=by omega
    have aO: ¬((6:Nat):Int)<6:=by omega
    have bu:=κ (N.o.congr (pu':=NY O ⟨act,sub,pub,H,d,(I,J),acc,own,st,sq,s0,s1,s2⟩ e s) bq.o (λ_=>rfl));go_wp2
    (refine bodyPost_end (v:= .tuple #[]) ?re1 rfl ?_;(case re1=>simp[results,results13,go_sem]))
    exact⟨rfl,bu.o,aT.o,(jt.of_more bv.o).trans ah.o⟩
def Tp {a:A22} (O:Gm s) (h:(doR s a).2.1=0) (M:4<=a.act) (N:a.act<=7):0<=a.sub/\a.sub<6:=by
 have I:a.act=4∨a.act=5∨a.act=6∨a.act=7:=by omega
 by_cases hx:0<=a.sub/\a.sub<6
 ·exact hx
 ·exfalso;have H: ¬(1:Int)=0:=by decide
  rcases I with e | e | e | e
  ·have d:doR s a=((s.join a.sub a.own a.seq a.stamp).1,(s.join a.sub a.own a.seq a.stamp).2,ύ):=by unfold doR;simp[e]
   rw[d] at h;unfold RmS.join yI at h;simp only[ώ hx,ώ H] at h;split at h<;>simp at h
  ·have d:doR s a=((s.subscribe a.sub a.pub a.layer).1,(s.subscribe a.sub a.pub a.layer).2,ύ):=by unfold doR;simp[e]
   rw[d] at h;unfold RmS.subscribe vL at h;have J: ¬((0<=a.sub/\a.sub<6)/\(0<=a.pub/\a.pub<3)):=λc=>hx c.1
   simp only[ώ J,ώ H] at h;split at h
   ·simp at h
   ·split at h
    ·simp at h
    ·split at h<;>simp at h
  ·have d:doR s a=((s.want a.sub a.layer).1,(s.want a.sub a.layer).2,ύ):=by unfold doR;simp[e]
   rw[d] at h;unfold RmS.want at h;rw[ϐ (c:=(decide (0<=a.sub/\a.sub<6)&&jj a.layer)=ύ) (by simp[hx])] at h;split at h<;>simp at h
  ·have d:doR s a=((s.leave a.sub).1,(s.leave a.sub).2,ύ):=by unfold doR;simp[e]
   rw[d] at h;unfold RmS.leave zW at h;simp only[ώ hx,ώ H] at h;split at h<;>simp at h
def TT {M:World} (x:A22) (h:RmR M w R (doR s x).1 F) (U:W∈F) (O:B∈F) (Y:V7 w W B H (EF s) sf) (d:qV n s) (ab:(s.tab.u.map Prod.fst).Nodup) (aa:qV (n+1) (doR s x).1) (J:Option Addr) (I:Nat):
  Calls prog 13 #[γ W,γ R,θ #[ι x.act,ι x.sub,ι x.pub,ι x.layer,δ J x.b.length I,ι x.w.1,ι x.w.2,x.acc,ω x.own,ω x.stamp,φ x.seq,ω x.s0,ω x.s1,ω x.s2],ι (doR s x).2.1] w λN w'=>N= .returned (.tuple #[])/\V7 w' W B (MR H x (doR s x).2.1) (EF (doR s x).1) (NX sf x (doR s x).2.1)/\RmR M w' R (doR s x).1 F/\jt (λb=>b=W∨b=B) w w':=by
 have e:=funext (Rk d ab x aa);rw[<-e];exact TR h U O Y x J I _ (λa b c=>Tp d.tb a b c)
def qba (h:RmR J w R s F) (x id:Int) {f:Option Int} (I:qh s.book (x,id)=f): ∃B,w.cell? ⟨R,0,ϋ⟩=ϊ (π (ϊ ⟨B,0,ϋ⟩))/\
  Calls prog 20 #[θ #[γ B],ι x,ι id] w λe w'=>e= .returned (.tuple #[ι (f.getD 0),f.isSome])/\ql w w':=by
 obtain⟨B,b,d,H⟩:=h.bk;subst I;exact⟨B,d,Ht H x id⟩
def qbF (h:RmR J w R s F) (I:qV n s):Calls prog 19 #[γ R] w λe w'=> ∃a b c d,e= .returned (θ #[ι a,ι b,ι c,ι d,ι (s.pks.length:Int)])/\ql w w':=
 (YI h rfl).mono λe w' H=>⟨_,_,_,_,by rw[<-I.num.acc];exact H.1,H.2⟩
def qbH (a0 d H a3 a4:Int) (w:World):(Instr.field 78 (θ #[ι a0,ι d,ι H,ι a3,ι a4]) 4).run prog w= .ok (ι a4) w:=rfl
def six (f:Int->Int):List Value:=[.int .i64 (f 0),.int .i64 (f 1),.int .i64 (f 2),.int .i64 (f 3),.int .i64 (f 4),.int .i64 (f 5)]
def R6:qL (Int->Int):=λ_ cs f=>cs=six f
def qbD (f:Int->Int) (k:Nat) (d:k<6):(six f)[k]? =ϊ (ι (f k)):=by
 have:k=0∨k=1∨k=2∨k=3∨k=4∨k=5:=by omega
 rcases this with rfl | rfl | rfl | rfl | rfl | rfl<;>rfl
def qbv (f:Int->Int) (k:Nat) (d:k<6) (u:Int):(six f).set k (ι u)=six (λx=>if x=(k:Int) then u else f x):=by
 have:k=0∨k=1∨k=2∨k=3∨k=4∨k=5:=by omega
 rcases this with rfl | rfl | rfl | rfl | rfl | rfl<;>simp[six]
def qbG {e:Nat} (h:je 6 R6 (λ_=>False) w base e v L) (i k:Nat) (hi:i<L.length) (I:k<6):
  ∃g cap,v= δ (ϊ ⟨g,0,ϋ⟩) L.length cap/\base<=g/\g<w.heap.size/\w.cell? ⟨g,i* 6+k,ϋ⟩=ϊ (ι (L[i] k))/\w.frozen? ⟨g,i* 6+k,ϋ⟩=ύ/\
   ∀u,je 6 R6 (λ_=>False) (w.setCell ⟨g,i* 6+k,ϋ⟩ (ι u)) base e v (L.set i (λx=>if x=(k:Int) then u else L[i] x)):=by
 obtain⟨⟨xs,⟨O,U⟩,Y⟩,_⟩:=h;rcases U with ⟨_,ae⟩ | ⟨g,cap,cur,rfl,J,H,aa,ac,ad,M⟩
 ·omega
 ·have r: ∀j (d:j<L.length),(xs.drop (j* 6)).take 6=six L[j]:=λj d=>(Y j d).read
  have N:xs[i* 6+k]? =ϊ (ι (L[i] k)):=by
   have:=ϵ (·[k]?) (r i hi);simp only[qbD _ k I] at this;rw[ο,ϐ I,D0] at this;exact this
  have ab:cur[i* 6+k]? =ϊ (ι (L[i] k)):=by
   rw[<-T5];rw[<-M,ο,ϐ τ] at N;exact N
  refine⟨g,cap,rfl,J,qn H,qm H _ ab,yw H _,λu=>⟨⟨xs.set (i* 6+k) (ι u),⟨by simpa using O,ϕ ⟨g,cap,cur.setIfInBounds (i* 6+k) (ι u),η,J,qp H _ _,by simpa using aa,by simpa using ac,by simpa using ad, ?_⟩⟩,λj d=> ?_⟩,λ_ _ x=>x⟩⟩
  ·rw[O4,<-M,Array.toList_setIfInBounds,List.take_set]
  ·intro w' _;show ((xs.set (i* 6+k) (ι u)).drop (j* 6)).take 6=six _;rw[O4] at d;rw[List.getElem_set];by_cases e:i=j
   ·subst e;rw[ϐ rfl,List.drop_set,ώ τ,show i* 6+k-i* 6=k by omega,List.take_set,r i hi,qbv _ _ I]
   ·rw[ώ e];by_cases c:i* 6+k<j* 6
    ·rw[List.drop_set,ϐ c];exact r j d
    ·rw[List.drop_set,ώ c,List.take_set,List.set_eq_of_length_le (by rw[Ϡ];omega)];exact r j d
def qaX {e:Nat} (h:je 6 R6 (λ_=>False) w base e v L) (U:L'.length=L.length) (ae: ∀i (hi:i<L.length) (k:Nat),k<6->(L'[i]'τ) k=L[i] k):je 6 R6 (λ_=>False) w base e v L':=by
 obtain⟨⟨xs,⟨aa,ab⟩,ac⟩,ad⟩:=h;refine⟨⟨xs,⟨by rw[U];exact aa,by rw[U];exact ab⟩,λi hi w' a=> ?_⟩,ad⟩;have O:i<L.length:=by omega
 have Y:(xs.drop (i* 6)).take 6=six L[i]:=(ac i O).read;show (xs.drop (i* 6)).take 6=six L'[i];have g:=ae i O;rw[Y];unfold six;have d:=g 0 ζ;have H:=g 1 ζ;have I:=g 2 ζ;have J:=g 3 ζ;have M:=g 4 ζ;have N:=g 5 ζ;simp only[Int.natCast_zero,Int.natCast_one,Int.cast_ofNat_Int] at d H I J M N;rw[d,H,I,J,M,N]
def qa6 {e:Nat} (h:je 6 R6 (λ_=>False) w base e v L) (t:qw F w w') (M: ∀b,v.ownBlock=ϊ b->b∈F):je 6 R6 (λ_=>False) w' base e v L:=by
 obtain⟨⟨xs,⟨d,H⟩,I⟩,J⟩:=h;refine⟨⟨xs,⟨d, ?_⟩,λi hi w'' _=>(I i hi).read⟩,J⟩;rcases H with h | ⟨g,cap,cur,e1,hb',hg,rest⟩
 ·exact ϑ h
 ·exact ϕ ⟨g,cap,cur,e1,hb',(t.2 g (M g (by rw[e1];rfl))).trans hg,rest⟩
def vm (g:Int->Int->Int) (n:Nat):List (Int->Int):=(List.range n).map λ(i:Nat) x=>g x (i:Int)
def vt (g:Int->Int->Int) (n:Nat):(vm g n).length=n:=by unfold vm;simp
def kf (g:Int->Int->Int) (n i:Nat) (hi:i<(vm g n).length):(vm g n)[i]=λx=>g x (i:Int):=by
 show ((List.range n).map λ(i:Nat) x=>g x (i:Int))[i]'(by rw[B9,N6];rw[vt] at hi;exact hi)=_;rw[J7,List.getElem_range]
def KS {g g':Int->Int->Int} (h: ∀x,∀i:Nat,i<n->g x i=g' x i):vm g n=vm g' n:=I2 λi hi=>funext λx=>h x i (F3.1 hi)
def qa5 (g:Int->Int->Int) (n:Nat):vm g (n+1)=vm g n++[λx=>g x (n:Int)]:=by unfold vm;rw[I0,ϻ];rfl
def qbh (g g':Int->Int->Int) (n k z:Nat) (u:Int) (I:z<n) (H:g' k z=u) (d: ∀x,∀i:Nat,¬(x=(k:Int)/\i=z)->g' x i=g x i) (hi:z<(vm g n).length):(vm g n).set z (λx=>if x=(k:Int) then u else (vm g n)[z] x)=vm g' n:=by
 refine List.ext_getElem (by simp[vt]) λi a b=> ?_
 rw[List.getElem_set];split
 ·rename_i e;subst e;rw[kf,kf]
  funext x
  split
  ·rename_i c;subst c;exact H.symm
  ·rename_i c;exact(d x z (λq=>c q.1)).symm
 ·rename_i e;rw[kf,kf];exact funext λx=>(d x i (λq=>e q.2.symm)).symm
def upF (s s':RmS) (y z:Nat) (x i:Int):Int:=if 0<=x/\x<(y:Int)∨x=(y:Int)/\i<(z:Int) then qa3 s' x i else vf s s' x i
def bkF (s:RmS) (x i:Int):Int:=(qh s.book (x,i)).getD (-1)
def qaH (s':RmS) (y z:Nat) (k:Nat):Int:=(((List.range z).countP λi:Nat=>decide (qh s'.book ((y:Int),(i:Int))=ϊ (k:Int)):Nat):Int)
def qbz (s':RmS) (y z k:Nat):0<=qaH s' y z k/\qaH s' y z k<=z:=by
 unfold qaH;have:=List.countP_le_length (l:=List.range z) (p:=λi:Nat=>decide (qh s'.book ((y:Int),(i:Int))=ϊ (k:Int)));rw[N6] at this;omega
def qaO (s':RmS) (y z k:Nat):qaH s' y (z+1) k=qaH s' y z k+if qh s'.book ((y:Int),(z:Int))=ϊ (k:Int) then 1 else 0:=by
 unfold qaH;rw[I0,List.countP_append,List.countP_singleton];by_cases c:qh s'.book ((y:Int),(z:Int))=ϊ (k:Int)<;>simp[c]
structure LgI (n:Nat) (s:RmS):Prop where
 ok:qV n s
 ld:qaK s
 sq:EO s
def LgI.start {c:CfR} (h:xY c=ό):LgI 0 (ud c):=⟨uQ h,qaK.start c,EO.start c⟩
def LgI.act (h:LgI n s) (J:(s.tab.u.map Prod.fst).Nodup) (a:A22) (d:Byt a.b) (H:a.b.length<=400) (I: ∀v∈[a.s0,a.s1,a.s2],0<=v/\v<=4294967295):LgI (n+1) (doR s a).1:=
 ⟨KZ h.ok J a d H I,h.ld.act h.ok.ow a,h.sq.act h.ok a⟩
def LgI.pub (h:LgI n s): ∀b∈s.pks,b.o.1≠ -1:=λb H=>by
 obtain⟨i,hi,rfl⟩:=List.getElem_of_mem H;have e:acP s.pks (i:Int)=s.pks[i]:=by unfold acP;rw[Ψ,ϒ,ϖ hi];rfl
 have d:=h.sq.org i ⟨τ,τ⟩;rw[e] at d;obtain⟨t,I⟩:=ϥ.1 d;exact(show ∀o∈orgs,o.1≠ -1 by decide) _ (h.ok.ow.org _ t I)
def qbE (h:LgI n s) (U:(s.tab.u.map Prod.fst).Nodup) (a:A22) (O:LgI (n+1) (doR s a).1) {y z:Nat} (Y:y<6) (aa:z<(doR s a).1.pks.length):
  (qh (doR s a).1.book ((y:Int),(z:Int))=ϋ/\vf s (doR s a).1 y z= -1)∨ ∃f:Nat,f<=8/\qh (doR s a).1.book ((y:Int),(z:Int))=ϊ (f:Int)/\0<=vf s (doR s a).1 y z/\(0<vf s (doR s a).1 y z->vf s (doR s a).1 y z=(f:Int)):=by
 obtain⟨H,I,J,M⟩:=qbm h.ld h.ok.ow a (y:Int) (z:Int) (subIds_iff.2 ⟨τ,τ⟩) ⟨τ,τ⟩ O.pub;cases hb:qh (doR s a).1.book ((y:Int),(z:Int)) with
 | none=>
  refine ϑ ⟨rfl, ?_⟩;rw[hb] at H;have d: ¬0<=vf s (doR s a).1 y z:=A5 H.symm;unfold vf at d ⊢;split
  ·rename_i c;rw[ϐ c] at d;cases q:qh s.book ((y:Int),(z:Int)) with
   | none=>rfl
   | some v=>rw[q] at d;exact(d (h.ld.rng _ v q).1).elim
  ·rename_i c;rw[ώ c] at d;split
   ·rename_i c2;rw[ϐ c2] at d;exact(d ζ).elim
   ·rfl
 | some v=>
  rw[hb] at H I J M;obtain⟨f,N⟩:=Ϻ J;simp only[ϣ] at N I M;subst N;exact ϕ ⟨f,τ,rfl,Ϛ H.symm,λq=>(I q).symm⟩
section
variable {s s':RmS} {y z n':Nat}
def qbe (x i:Int) (hi:0<=i):upF s s' 0 0 x i=vf s s' x i:=ώ τ
def qaR (x:Int) (i:Nat) (h: ¬(x=(y:Int)/\i=z)):upF s s' y (z+1) x i=upF s s' y z x i:=by
 unfold upF;by_cases c:0<=x/\x<(y:Int)∨x=(y:Int)/\(i:Int)<(z:Int)
 ·rw[ϐ c,ϐ τ]
 ·rw[ώ c,ώ τ]
def qbf (h:qa3 s' y z=vf s s' y z) (x:Int) (i:Nat):upF s s' y (z+1) x i=upF s s' y z x i:=by
 by_cases c:x=(y:Int)/\i=z
 ·obtain⟨rfl,rfl⟩:=c;unfold upF;rw[ϐ τ,ώ τ];exact h
 ·exact qaR x i c
def qbr:upF s s' y (z+1) y z=qa3 s' y z:=ϐ τ
def qa0:upF s s' y z y z=vf s s' y z:=ώ τ
def qbq (x:Int) (i:Nat) (hi:i<n'):upF s s' (y+1) 0 x i=upF s s' y n' x i:=by
 unfold upF;by_cases c:0<=x/\x<((y+1:Nat):Int)
 ·rw[ϐ (ϑ c),ϐ τ]
 ·rw[ώ τ,ώ τ]
def qbs (k:Nat) (d:k<6) (i:Int):upF s s' 6 0 k i=bkF s' k i:=ϐ τ
def qaT (x:Int) (i:Nat) (hi:i<s.pks.length):vf s s' x i=bkF s x i:=ϐ τ
end
def AN (n:Nat) (e:TypeId) (w:World) (b:Nat) (f:Nat->Int):Prop:= ∃cs,w.heap[b]? =ϊ (.cells cs e (0,0))/\cs.size=n/\ ∀k,k<n->cs[k]? =ϊ (.int .i64 (f k))
section
variable {n:Nat} {e:TypeId} {w w':World} {b:Nat} {f f':Nat->Int}
def AN.congr (h:AN n e w b f) (H: ∀k,k<n->f' k=f k):AN n e w b f':=by
 obtain⟨cs,I,J,M⟩:=h;exact⟨cs,I,J,λk d=>by rw[H k d];exact M k d⟩
def AN.zero (h:w.heap[b]? =ϊ (.cells #[ι 0,ι 0,ι 0,ι 0,ι 0,ι 0] e (0,0))):AN 6 e w b λ_=>0:=⟨_,h,rfl,λk d=>by
 have:k=0∨k=1∨k=2∨k=3∨k=4∨k=5:=by omega
 rcases this with rfl | rfl | rfl | rfl | rfl | rfl<;>rfl⟩
def AN.zero9 (h:w.heap[b]? =ϊ (.cells #[ι 0,ι 0,ι 0,ι 0,ι 0,ι 0,ι 0,ι 0,ι 0] e (0,0))):AN 9 e w b λ_=>0:=⟨_,h,rfl,λk d=>by
 have:k=0∨k=1∨k=2∨k=3∨k=4∨k=5∨k=6∨k=7∨k=8:=by omega
 rcases this with rfl | rfl | rfl | rfl | rfl | rfl | rfl | rfl | rfl<;>rfl⟩
def AN.nine (h:AN 9 e w b f):w.heap[b]? =ϊ (.cells #[ι (f 0),ι (f 1),ι (f 2),ι (f 3),ι (f 4),ι (f 5),ι (f 6),ι (f 7),ι (f 8)] e (0,0)):=by
 obtain⟨cs,H,I,J⟩:=h;have d:cs= #[ι (f 0),ι (f 1),ι (f 2),ι (f 3),ι (f 4),ι (f 5),ι (f 6),ι (f 7),ι (f 8)]:=by
  refine Array.ext (by simp[I]) λi a _=> ?_
  have g:=J i τ;rw[I9 a] at g;injection g with g
  rw[g];have:i=0∨i=1∨i=2∨i=3∨i=4∨i=5∨i=6∨i=7∨i=8:=by omega
  rcases this with rfl | rfl | rfl | rfl | rfl | rfl | rfl | rfl | rfl<;>rfl
 rw[<-d];exact H
def AN.stay (h:AN n e w b f) (t:qw F w w') (J:b∈F):AN n e w' b f:=by
 obtain⟨cs,d,H,I⟩:=h;exact⟨cs,t.blk J d,H,I⟩
def AN.away (h:AN n e w b f) (m:jt S w w') (J: ¬S b):AN n e w' b f:=by
 obtain⟨cs,d,H,I⟩:=h;exact⟨cs,m.blk d J,H,I⟩
def AN.more (h:AN n e w b f) (m:ql w w'):AN n e w' b f:=h.away (jt.of_more (S:=λ_=>False) m) (λx=>x)
def AN.lt (h:AN n e w b f):b<w.heap.size:=by
 obtain⟨cs,d,_⟩:=h;exact qn d
def AN.get (h:AN n e w b f) (k:Nat) (I:k<n):w.cell? ⟨b,k,ϋ⟩=ϊ (ι (f k))/\w.frozen? ⟨b,k,ϋ⟩=ύ:=by
 obtain⟨cs,d,J,H⟩:=h;exact⟨qm d k (H k I),yw d k⟩
def AN.set (h:AN n e w b f) (k:Nat) (M:k<n) (u:Int):AN n e (w.setCell ⟨b,k,ϋ⟩ (ι u)) b (λx=>if x=k then u else f x):=by
 obtain⟨cs,I,d,J⟩:=h;refine⟨_,qp I k _,by simp[d],λj H=> ?_⟩;by_cases ej:j=k
 ·subst ej;simp[d,H]
 ·rw[C8 (λc=>ej c.symm)];exact(J j H).trans (ϵ (λz=>ϊ (ι z)) (ώ ej).symm)
end
def Q6 {e:Nat} (h:je 6 R6 (λ_=>False) w base e v L) (a:jt S w w') (M: ∀b,v.ownBlock=ϊ b-> ¬S b):je 6 R6 (λ_=>False) w' base e v L:=by
 obtain⟨⟨xs,⟨d,H⟩,I⟩,J⟩:=h;refine⟨⟨xs,⟨d, ?_⟩,λi hi w'' _=>(I i hi).read⟩,J⟩;rcases H with h | ⟨g,cap,cur,e1,hb',hg,rest⟩
 ·exact ϑ h
 ·exact ϕ ⟨g,cap,cur,e1,hb',a.blk hg (M g (by rw[e1];rfl)),rest⟩
def RmX.grow {I:Value} {Fn:List Nat} (h:RmX T J w k vp I s F) (a:jt (λb=>b∈F) w w') (H: ∀b∈Fn,w.heap.size<=b/\b<w'.heap.size):RmX T J w' k vp I s (Fn++F):=by
 have d:=h.mut a;refine⟨d.all,d.ge,λb M=> ?_,d.more⟩;rcases ϯ.1 M with e | e
 ·exact⟨h.fresh b (H b e).1,Ϙ h.more.size (H b e).1,(H b e).2⟩
 ·exact d.law b e
def RmR.grow {d:World} {Fn:List Nat} (h:RmR d w R s F) (a:jt (λb=>b∈F) w w') (H: ∀b∈Fn,w.heap.size<=b/\b<w'.heap.size):RmR d w' R s (Fn++F):=by
 obtain⟨k,e,T,vp,I,x⟩:=h;exact⟨k,e,T,vp,I,x.grow a H⟩
structure LgC (w1 w:World) (R W B sn wb xb base:Nat) (Fu G:List Nat) (u:Value) (s:RmS) (L:List (Int->Int)) (jo pu:Int->Int) (sf:Og->Option Int) (fs fw:Nat->Int) (xc:Array Value):Prop where
 rm:RmR w1 w R s (Fu++G)
 own: ∀b,u.ownBlock=ϊ b->b∈Fu/\b≠W/\b≠B/\b≠sn/\b≠wb/\b≠xb
 mem:W∈G/\B∈G/\sn∈G/\wb∈G/\xb∈G
 ne:(W≠sn/\W≠wb/\W≠xb)/\(B≠sn/\B≠wb/\B≠xb)/\sn≠wb/\sn≠xb
 row:je 6 R6 (λ_=>False) w base 81 u L
 who:V7 w W B jo pu sf
 sn:AN 6 46 w sn fs
 was:AN 6 46 w wb fw
 box:w.heap[xb]? =ϊ (.cells xc 42 (0,0))
section
variable {w1 w w':World} {R W B sn wb xb base:Nat} {Fu G:List Nat} {u:Value} {s s':RmS} {L:List (Int->Int)} {jo pu:Int->Int} {sf:Og->Option Int} {fs fw:Nat->Int} {xc:Array Value}
def LgC.more (h:LgC w1 w R W B sn wb xb base Fu G u s L jo pu sf fs fw xc) (m:ql w w'):LgC w1 w' R W B sn wb xb base Fu G u s L jo pu sf fs fw xc:=
 ⟨h.rm.on m,h.own,h.mem,h.ne,Q6 h.row (jt.of_more (S:=λ_=>False) m) (λ_ _ x=>x),h.who.more m,h.sn.more m,h.was.more m,qq m h.box⟩
def LgC.call (h:LgC w1 w R W B sn wb xb base Fu G u s L jo pu sf fs fw xc) (H:RmR w1 w' R s' (Fu++G)) (t:qw (Fu++G) w w'):LgC w1 w' R W B sn wb xb base Fu G u s' L jo pu sf fs fw xc:=by
 obtain⟨I,J,M,N,O⟩:=h.mem;have g: ∀{b},b∈G->b∈Fu++G:=λd=>ϓ _ d
 exact⟨H,h.own,h.mem,h.ne,qa6 h.row t (λb d=>ϰ _ (h.own b d).1),h.who.stay t (g I) (g J),h.sn.stay t (g M),h.was.stay t (g N),t.blk (g O) h.box⟩
def LgC.adds (h:LgC w1 w R W B sn wb xb base Fu G u s L jo pu sf fs fw xc) (m:ql w w') (H:w.heap.size<=q/\q<w'.heap.size):LgC w1 w' R W B sn wb xb base Fu (q::G) u s L jo pu sf fs fw xc:=by
 obtain⟨I,J,M,N,O⟩:=h.mem;have k:=h.more m;exact⟨(h.rm.adds (Fn:=[q]) m (λb d=>by rw[C0.1 d];exact H)).sub (λb d=>by simp at d ⊢;rcases d with h | h | h<;>simp[h]),k.own,⟨.tail _ I,.tail _ J,.tail _ M,.tail _ N,.tail _ O⟩,k.ne,k.row,k.who,k.sn,k.was,k.box⟩
def LgC.beside (h:LgC w1 w R W B sn wb xb base Fu (q::G) u s L jo pu sf fs fw xc) (a:jt (λb=>b=q) w w') (H:(∀b∈Fu,b≠q)/\W≠q/\B≠q/\sn≠q/\wb≠q/\xb≠q):LgC w1 w' R W B sn wb xb base Fu (q::G) u s L jo pu sf fs fw xc:=by
 obtain⟨I,J,M,N,O,U⟩:=H;exact⟨h.rm.mut (a.mono λb d=>by rw[d];simp),h.own,h.mem,h.ne,Q6 h.row a (λb d=>I b (h.own b d).1),h.who.away a J M,h.sn.away a N,h.was.away a O,a.blk h.box U⟩
def LgC.drop (h:LgC w1 w R W B sn wb xb base Fu (q::G) u s L jo pu sf fs fw xc) (H:W∈G/\B∈G/\sn∈G/\wb∈G/\xb∈G):LgC w1 w R W B sn wb xb base Fu G u s L jo pu sf fs fw xc:=
 ⟨h.rm.sub (λb d=>by simp at d ⊢;rcases d with h | h<;>simp[h]),h.own,H,h.ne,h.row,h.who,h.sn,h.was,h.box⟩
def LgC.put (h:LgC w1 w R W B sn wb xb base Fu G u s L jo pu sf fs fw xc) (i k:Nat) (hi:i<L.length) (M:k<6):
  ∃g cap,u= δ (ϊ ⟨g,0,ϋ⟩) L.length cap/\w.cell? ⟨g,i* 6+k,ϋ⟩=ϊ (ι (L[i] k))/\w.frozen? ⟨g,i* 6+k,ϋ⟩=ύ/\
   ∀v,LgC w1 (w.setCell ⟨g,i* 6+k,ϋ⟩ (ι v)) R W B sn wb xb base Fu G u s (L.set i (λx=>if x=(k:Int) then v else L[i] x)) jo pu sf fs fw xc:=by
 obtain⟨g,cap,rfl,ab,ac,d,H,I⟩:=qbG h.row i k hi M;obtain⟨N,o2,O,U,Y,aa⟩:=h.own g rfl;refine⟨g,cap,rfl,d,H,λv=> ?_⟩;have a:jt (λb=>b=g) w (w.setCell ⟨g,i* 6+k,ϋ⟩ (ι v)):=(jt.refl (λb=>b=g) w).set (p:=⟨g,i* 6+k,ϋ⟩) rfl _;exact⟨h.rm.mut (a.mono λb J=>by rw[J];exact ϰ _ N),h.own,h.mem,h.ne,I v,h.who.away a o2.symm O.symm,h.sn.away a U.symm,h.was.away a Y.symm,a.blk h.box aa.symm⟩
def LgC.sent (h:LgC w1 w R W B sn wb xb base Fu G u s L jo pu sf fs fw xc) (k:Nat) (H:k<6) (v:Int):
  LgC w1 (w.setCell ⟨sn,k,ϋ⟩ (ι v)) R W B sn wb xb base Fu G u s L jo pu sf (λx=>if x=k then v else fs x) fw xc:=by
 have a:jt (λb=>b=sn) w (w.setCell ⟨sn,k,ϋ⟩ (ι v)):=(jt.refl (λb=>b=sn) w).set (p:=⟨sn,k,ϋ⟩) rfl _;obtain⟨⟨I,-,-⟩,⟨n2,-,-⟩,J,M⟩:=h.ne;exact⟨h.rm.mut (a.mono λb d=>by rw[d];exact ϓ _ h.mem.2.2.1),h.own,h.mem,h.ne,Q6 h.row a (λb d e=>(h.own b d).2.2.2.1 e),h.who.away a I n2,h.sn.set k H v,h.was.away a J.symm,a.blk h.box M.symm⟩
def LgC.note {pu':Int->Int} (h:LgC w1 w R W B sn wb xb base Fu G u s L jo pu sf fs fw xc) (I:RmR w1 w' R s (Fu++G)) (q:V7 w' W B H pu' sf') (a:jt (λb=>b=W∨b=B) w w'):LgC w1 w' R W B sn wb xb base Fu G u s L H pu' sf' fs fw xc:=by
 obtain⟨⟨O,n2,U⟩,⟨J,M,N⟩,-,-⟩:=h.ne;exact⟨I,h.own,h.mem,h.ne,Q6 h.row a (λb d e=>e.elim (h.own b d).2.1 (h.own b d).2.2.1),q,h.sn.away a (λe=>e.elim O.symm J.symm),h.was.away a (λe=>e.elim n2.symm M.symm),a.blk h.box (λe=>e.elim U.symm N.symm)⟩
def LgC.grow {H:Value} (h:LgC w1 w R W B sn wb xb base Fu G u s L jo pu sf fs fw xc) (I:je 6 R6 (λ_=>False) w' base 81 H L') (g:w.grownBy w' u.ownBlock) (d:H.ownBlock=u.ownBlock∨H.ownBlock=ϊ w.heap.size): ∃Fu',LgC w1 w' R W B sn wb xb base Fu' G H s L' jo pu sf fs fw xc:=by
 have a:jt (λb=>u.ownBlock=ϊ b) w w':=jt.of_grown g;have O:=h.who.away a (λe=>(h.own _ e).2.1 rfl) (λe=>(h.own _ e).2.2.1 rfl);have N:=h.sn.away a (λe=>(h.own _ e).2.2.2.1 rfl);have M:=h.was.away a (λe=>(h.own _ e).2.2.2.2.1 rfl);have U:=a.blk h.box (λe=>(h.own _ e).2.2.2.2.2 rfl);have J:jt (λb=>b∈Fu++G) w w':=a.mono λb d=>ϰ _ (h.own b d).1
 rcases d with e | e
 ·exact⟨Fu,h.rm.mut J,λb d=>h.own b (e▸d),h.mem,h.ne,I,O,N,M,U⟩
 ·have Y:=I.lt e;refine⟨w.heap.size::Fu,h.rm.grow J (Fn:=[w.heap.size]) (λb d=>by rw[C0.1 d];exact⟨ϔ _,Y⟩),λb d=> ?_,h.mem,h.ne,I,O,N,M,U⟩;rw[e] at d;obtain rfl:w.heap.size=b:=by injection d
  have aa:B<w.heap.size:=by obtain⟨_,_,_,_,_,_,q,_⟩:=h.who.ex;exact q.lt
  have ac:W<w.heap.size:=by obtain⟨_,_,q,_⟩:=h.who.ex;exact qn q
  have ad:=qn h.box;have ab:=h.sn.lt;have hF:=h.was.lt;exact⟨ϛ,τ,τ,τ,τ,τ⟩
end
def SE (k y:Nat) (f:Nat->Int):(if k<y+1 then f k else 0)=if k=y then f y else if k<y then f k else 0:=by
 by_cases e:k=y
 ·subst e;rw[ϐ τ,ϐ rfl]
 ·rw[ώ e];by_cases c:k<y
  ·rw[ϐ τ,ϐ c]
  ·rw[ώ τ,ώ c]
def Sl (h:qV n s) (x:Int):(s.ln x).W.length<=n:=by
 unfold RmS.ln;cases e:qh s.lanes x with
 | none=>exact Δ _
 | some l=>exact h.num.wr x l e
def AN.six (h:AN 6 e w b f):w.heap[b]? =ϊ (.cells #[ι (f 0),ι (f 1),ι (f 2),ι (f 3),ι (f 4),ι (f 5)] e (0,0)):=by
 obtain⟨cs,H,I,J⟩:=h;have d:cs= #[ι (f 0),ι (f 1),ι (f 2),ι (f 3),ι (f 4),ι (f 5)]:=by
  refine Array.ext (by simp[I]) λi a _=> ?_
  have g:=J i τ;rw[I9 a] at g;injection g with g
  rw[g];have:i=0∨i=1∨i=2∨i=3∨i=4∨i=5:=by omega
  rcases this with rfl | rfl | rfl | rfl | rfl | rfl<;>rfl
 rw[<-d];exact H
structure qbp (s s2:RmS):Prop where
 fat: ∀y z:Nat,y<6->z<s2.pks.length->(qh s2.book ((y:Int),(z:Int))=ϋ/\vf s s2 y z= -1)∨ ∃f:Nat,f<=8/\qh s2.book ((y:Int),(z:Int))=ϊ (f:Int)/\0<=vf s s2 y z/\(0<vf s s2 y z->vf s s2 y z=(f:Int))
 snt: ∀y:Nat,zL (y:Int) 1 s2.book=zL (y:Int) 1 s.book+(if (s.ln (y:Int)).W.length<(s2.ln (y:Int)).W.length then ((s2.ln (y:Int)).W.length:Int)-(s.ln (y:Int)).W.length else 0)/\
  ((s.ln (y:Int)).W.length<(s2.ln (y:Int)).W.length-> ∃o,(s2.ln (y:Int)).W=(s.ln (y:Int)).W++[o]/\qh s2.book ((y:Int),o.1)=ϊ 1)
 cnt: ∀y k:Nat,zL (y:Int) k s2.book=qaH s2 y s2.pks.length k
def qbp.of (h:LgI n s) (H:(s.tab.u.map Prod.fst).Nodup) (a:A22) (d:LgI (n+1) (doR s a).1):qbp s (doR s a).1:=
 ⟨λ_ _ I J=>qbE h H a d I J,λy=>qbk h.ld h.ok.ow a d.ok.ow (y:Int),λy k=>qaQ d.ld d.ok.ow (y:Int) k⟩
def NW:Code->List Code
 | .loop c=> .loop c::NW c
 | .seq a b=>NW a++NW b
 | .block _ c=>NW c
 | .scope c=>NW c
 | .cond _ a b=>NW a++NW b
 | _=>[]
def jt.cellN (a:jt S w w') (d:b<w.heap.size) (H: ¬S b) (i:Nat):w'.cell? ⟨b,i,ϋ⟩=w.cell? ⟨b,i,ϋ⟩:=by
 unfold World.cell?;simp only;rw[a.block b d H]
def qbo (a0 d H a3 a4 a5 I J M:Int) (w:World):(binOp .neq 96 (θ #[ι a0,ι d,ι H,ι a3,ι a4,ι a5,ι I,ι J,ι M]) (θ #[ι a0,ι d,ι H,ι a3,ι a4,ι a5,ι I,ι J,ι M])).run prog w= .ok (μ ύ) w:=by
 obtain⟨i,hi⟩: ∃i,prog.info? 3=ϊ i:=⟨_,rfl⟩;have h:=Fy (la:=[a0,d,H,a3,a4,a5,I,J,M]) (lb:=[a0,d,H,a3,a4,a5,I,J,M]) underlying96 hi ξ underlying3 isAgg3 rfl rfl w;rw[Ϫ rfl] at h;exact h
noncomputable def ledLoop:Code:=(NW (Tryz.f4.body.getD .skip)).getD 3 .skip
def qa9 {sn d H:Nat} {ab:List Nat} {ah:Option Addr} {ae:Nat} {s2:RmS} {ag:Int->Int} {ai:Og->Option Int} (bz:Hid (LgI n s)) (ay:Hid (LgI (n+1) s2)) (aU:Hid (qbp s s2)) (jP:n<=120)
  (bB:Hid (LgC w1 w R W B sn d H base ab [d,H,sn,W,B] (δ ah s2.pks.length ae) s2 (vm (upF s s2 0 0) s2.pks.length) ag (EF s2) ai (λk=>if k<0 then zL (k:Int) 1 s2.book else zL (k:Int) 1 s.book) (λk=>((s.ln (k:Int)).W.length:Int)) xc)) (bu:Hid (base<=w.heap.size)) (bI c1 c2 c3 c4 dj dv bJ bU cp cy cz cA ak al cB cC cD gn gy gJ gO gP gQ gR cF cG cH cI cJ cK cL cM cN cO cP cQ cR cS cT cU cV cW cX cY cZ da db dc dd de am df dg dh di dk dl dm dn dp dq dr ds dt du dw dx dy dz dA dB dC dD dE dF dG dH dI dJ dK dL dM dN dO dP dQ dR dS dT dU dV dW dX dY dZ bK bL bM bN bO bP bQ bR bS bT bV bW bX bY bZ ca cb cc cd ce cf cg ch ci cj ck cl cm cn co cq cr cu cw cx eF eG eH eI eJ eK eL eM eN eO eP eQ eR eS eT eU eV eW eX eY eZ fa fb fc fd fe ff fg fh fi fj fk fl fm fn fo fp fq fr fs ft fu fv fw fx fy fz fA fB fC fD fE fF fG fH fI fJ fK fL fM fN fO fP fQ fR fS fT fU fV fW fX fY fZ ga gb gc gd gf gg gh gi gj gl gm go gp gq gr gs gt gu gv gw gx gz gA gB gC gD gE gF gG gH gI gK gL gM gN cE:Value) (Q:Exit->Act->World->Prop)
  (gY: ∀(jE iV jj jv jA jB jC jD hg hh hj hk hl hm hn ho hq hr hs ht hu hv hw hx hy hz hA hB hC hD hE hG hH hI hJ hK hL hM hN hO hP hQ hR hS hT hU hV hW hX hY hZ ia ib ic ie ig ih ii ij ik il im io ip iq ir iu iv iw ix iy iz iA iB iC iD iE iF iG iH iI iJ iK iL iM iN iO iP iQ iR iS iT iU iW iX iY iZ jc jd je jf jg ji jk jl jm jn jo jp jq jr js ju jw jx jy jz:Value) (I:World),LgC w1 I R W B sn d H base ab [d,H,sn,W,B] (δ ah s2.pks.length ae) s2 (vm (upF s s2 6 0) s2.pks.length) ag (EF s2) ai (λk=>if k<6 then zL (k:Int) 1 s2.book else zL (k:Int) 1 s.book) (λk=>((s.ln (k:Int)).W.length:Int)) xc->base<=I.heap.size->Q (.exit 6) ⟨List.toArray (bI::c1::c2::c3::jE:: γ R::dj::dv:: δ ah s2.pks.length ae:: γ sn::bJ::bU:: γ d::cp::cy::cz::cA::ak::al::cB::cC::cD::iV::jj::jv::jA::jB::jC::jD::cF::cG::cH::cI::cJ::cK::cL::cM::cN::cO::cP::cQ::cR::cS::cT::cU::cV::cW::cX::cY::cZ::da::db::dc::dd::de::am::df::dg::dh::di::dk::dl::dm::dn::dp::dq::dr::ds::dt::du::dw::dx::dy::dz::dA::dB::dC::dD::dE::dF::dG::dH::dI::dJ::dK::dL::dM::dN::dO::dP::dQ::dR::dS::dT::dU::dV::dW::dX::dY::dZ::bK::bL::bM::bN::bO::bP::bQ::bR::bS::bT::bV::bW::bX::bY::bZ::ca::cb::cc::cd::ce::cf::cg::ch::ci::cj::ck::cl::cm::cn::co::cq::cr::cu::cw::cx::hg::hh::hj::hk::hl::hm::hn::ho::hq::hr::hs::ht::hu::hv::hw::hx::hy::hz::hA::hB::hC::hD::hE::hG::hH::hI::hJ::hK::hL::hM::hN::hO::hP::hQ::hR::hS::hT::hU::hV::hW::hX::hY::hZ::ia::ib::ic::ie::ig::ih::ii::ij::ik::il::im::io::ip::iq::ir::iu::iv::iw::ix::iy::iz::iA::iB::iC::iD::iE::iF::iG::iH::iI::iJ::iK::iL::iM::iN::iO::iP::iQ::iR::iS::iT::iU::iW::iX::iY::iZ::jc::jd::je::jf::jg::ji::jk::jl::jm::jn::jo::jp::jq::jr::js::ju::jw::jx::jy::jz::cE::[]),[]⟩ I):Code.wp prog ledLoop Q ⟨List.toArray (bI::c1::c2::c3::c4:: γ R::dj::dv:: δ ah s2.pks.length ae:: γ sn::bJ::bU:: γ d::cp::cy::cz::cA::ak::al::cB::cC::cD::gn::gy::gJ::gO::gP::gQ::gR::cF::cG::cH::cI::cJ::cK::cL::cM::cN::cO::cP::cQ::cR::cS::cT::cU::cV::cW::cX::cY::cZ::da::db::dc::dd::de::am::df::dg::dh::di::dk::dl::dm::dn::dp::dq::dr::ds::dt::du::dw::dx::dy::dz::dA::dB::dC::dD::dE::dF::dG::dH::dI::dJ::dK::dL::dM::dN::dO::dP::dQ::dR::dS::dT::dU::dV::dW::dX::dY::dZ::bK::bL::bM::bN::bO::bP::bQ::bR::bS::bT::bV::bW::bX::bY::bZ::ca::cb::cc::cd::ce::cf::cg::ch::ci::cj::ck::cl::cm::cn::co::cq::cr::cu::cw::cx:: ι 0::eF::eG::eH::eI::eJ::eK::eL::eM::eN::eO::eP::eQ::eR::eS::eT::eU::eV::eW::eX::eY::eZ::fa::fb::fc::fd::fe::ff::fg::fh::fi::fj::fk::fl::fm::fn::fo::fp::fq::fr::fs::ft::fu::fv::fw::fx::fy::fz::fA::fB::fC::fD::fE::fF::fG::fH::fI::fJ::fK::fL::fM::fN::fO::fP::fQ::fR::fS::fT::fU::fV::fW::fX::fY::fZ::ga::gb::gc::gd::gf::gg::gh::gi::gj::gl::gm::go::gp::gq::gr::gs::gt::gu::gv::gw::gx::gz::gA::gB::gC::gD::gE::gF::gG::gH::gI::gK::gL::gM::gN::cE::[]),[]⟩ w:=by
 conv=>arg 2;whnf
 go_loopw [135] (λi I=> ∃y:Nat,y<=6/\i= ι y/\LgC w1 I R W B sn d H base ab [d,H,sn,W,B] (δ ah s2.pks.length ae) s2 (vm (upF s s2 y 0) s2.pks.length) ag (EF s2) ai (λk=>if k<y then zL (k:Int) 1 s2.book else zL (k:Int) 1 s.book) (λk=>((s.ln (k:Int)).W.length:Int)) xc/\base<=I.heap.size) (λi _=>6-(intOf i).toNat)
 case atStart=>exact⟨0,τ,rfl,bB.o,bu.o⟩
 case round=>
  clear bB bu;obtain⟨y,jS,rfl,aq,N⟩:=hrel;have aA:=κ aq;have aO:=κ N;clear aq N;by_cases hlt6:y<6
  ·have hd:(y:Int)<6:=by omega
   go_upto_region 39 with fail
   obtain⟨aZ,aC⟩:=ν (wr.alloc (.cells #[ι 0,ι 0,ι 0,ι 0,ι 0,ι 0,ι 0,ι 0,ι 0] 96));have aY:Hid (ql wr aZ):=κ (by rw[<-aC];exact ql.alloc _ _);have aI:Hid (AN 9 96 aZ wr.heap.size λ_=>0):=κ (by rw[<-aC];exact AN.zero9 (qj wr _));have bq:=κ (aA.o.adds (q:=wr.heap.size) aY.o ⟨ϔ _,aI.o.lt⟩);have bt:Hid (base<=aZ.heap.size):=κ (Ϙ aO.o aY.o.size)
   have ax:Hid ((∀b∈ab,b≠wr.heap.size)/\W≠wr.heap.size/\B≠wr.heap.size/\sn≠wr.heap.size/\d≠wr.heap.size/\H≠wr.heap.size):=κ (by
    have ej:=λb N=>aA.o.rm.lt b N
    refine⟨λb N=>by have:=ej b (ϰ _ N);omega, ?_, ?_, ?_, ?_, ?_⟩<;>(refine Nat.ne_of_lt (ej _ η)))
   have jQ:s2.pks.length<=200:=by have:=ay.o.ok.num.pks;omega
   clear aA aO aY;rw[aC];clear aC;go_wp2;generalize wr.heap.size=ct at *
   go_loopw [141] (λi I=> ∃z:Nat,z<=s2.pks.length/\i= ι z/\LgC w1 I R W B sn d H base ab [ct,d,H,sn,W,B] (δ ah s2.pks.length ae) s2 (vm (upF s s2 y z) s2.pks.length) ag (EF s2) ai (λk=>if k<y then zL (k:Int) 1 s2.book else zL (k:Int) 1 s.book) (λk=>((s.ln (k:Int)).W.length:Int)) xc/\AN 9 96 I ct (qaH s2 y z)/\base<=I.heap.size) (λi _=>s2.pks.length-(intOf i).toNat)
   case atStart=>exact⟨0,τ,rfl,bq.o,aI.o.congr (λ_ _=>rfl),bt.o⟩
   case round=>
    clear bq bt aI;obtain⟨z,jT,rfl,aq,ee,N⟩:=hrel;have ad:=κ aq;have aL:=κ ee;have aP:=κ N;clear aq ee N;by_cases hltz:z<s2.pks.length
    ·have he:(z:Int)<(s2.pks.length:Int):=by omega
     have aE:z<(vm (upF s s2 y z) s2.pks.length).length:=by rw[vt];exact hltz
     rcases aU.o.fat y z hlt6 hltz with ⟨bh,au⟩ | ⟨f,jM,bm,au,bj⟩
     ·obtain⟨Bk,gS,hF⟩:=qba ad.o.rm (y:Int) (z:Int) bh;have aT:=κ hF;have bC:=κ bh;have bD:=κ au;clear hF bh au
      go_upto_region 43 with ((go_at_call 20;(go_call aT.o as e ao ⟨rfl,aa⟩;have aj:=κ (ad.o.more aa);have aG:=κ (aL.o.more aa);have aw:Hid (base<=ao.heap.size):=κ (Ϙ aP.o aa.size);clear aa)))
      obtain⟨g,cap,av,U,gV,-⟩:=aj.o.put z y aE hlt6;injection av with hu1 hu2 hu3
      subst hu1;clear hu2 hu3;rw[kf,show (λx=>upF s s2 y z x (z:Int)) (y:Int)=vf s s2 y z from qa0,bD.o] at U;go_wp2;go_roundw
      case rel=>exact⟨z+1,τ,by go_num,{aj.o with row:=by rw[KS (λx i _=>qbf (by rw[bD.o];unfold qa3;rw[bC.o];rfl) x i)];exact aj.o.row},aG.o.congr (λk _=>by rw[qaO,bC.o,ώ η,Int.add_zero]),aw.o⟩
      case measure=>simp only[intOf];omega
     ·obtain⟨Bk,gS,hF⟩:=qba ad.o.rm (y:Int) (z:Int) bm;have aT:=κ hF;have bH:=κ bm;clear hF bm;have jN:(f:Int)<=8:=by omega
      go_upto_region 43 with ((go_at_call 20;(go_call aT.o as e ao ⟨rfl,aa⟩;have aj:=κ (ad.o.more aa);have aG:=κ (aL.o.more aa);have aw:Hid (base<=ao.heap.size):=κ (Ϙ aP.o aa.size);clear aa)))
      obtain⟨g,cap,av,U,gV,eo⟩:=aj.o.put z y aE hlt6;injection av with hu1 hu2 hu3
      subst hu1;clear hu2 hu3;have gZ:=ax.o.1 g (aj.o.own g rfl).1;have ed:=qbh (upF s s2 y z) (upF s s2 y (z+1)) s2.pks.length y z (f:Int) hltz (by rw[qbr];unfold qa3;rw[bH.o];rfl) (λx i c=>qaR x i c) aE;have bb:=eo (f:Int);rw[ed] at bb;have bA:=κ bb;have bo:=κ (aG.o.away ((jt.refl (λb=>b=g) ao).set (p:=⟨g,z* 6+y,ϋ⟩) rfl (ι (f:Int))) (λe=>gZ e.symm));obtain⟨jU,jH⟩:=bo.o.get f τ;have jK:=qbz s2 y z f
      have bs:=κ ((bo.o.set f τ (qaH s2 y z f+1)).congr (f':=qaH s2 y (z+1)) (λk _=>by
       rw[qaO,bH.o];by_cases e:k=f
       ·subst e;simp
       ·rw[ώ e,ώ (λc=>e (by injection c with c;omega)),Int.add_zero]))
      generalize qaH s2 y z f=cv at *;rw[kf,show (λx=>upF s s2 y z x (z:Int)) (y:Int)=vf s s2 y z from qa0] at U;clear eo ed bb aE;have jL:cv<=200:=by omega
      by_cases hp:0<vf s s2 (y:Int) (z:Int)
      ·rw[bj hp] at U hp;clear au bj;go_wp2;go_roundw
       case rel=>exact⟨z+1,τ,by go_num,bA.o.beside ((jt.refl (λb=>b=ct) _).set (p:=⟨ct,f,ϋ⟩) rfl _) ax.o,bs.o,Ϙ aw.o (((jt.refl (λ_=>True) ao).set (p:=⟨g,z* 6+y,ϋ⟩) trivial (ι (f:Int))).set (p:=⟨ct,f,ϋ⟩) trivial (ι (cv+1))).size⟩
       case measure=>simp only[intOf];omega
      ·rw[show vf s s2 (y:Int) (z:Int)=0 by omega] at U;clear au bj hp;go_wp2;go_roundw
       case rel=>exact⟨z+1,τ,by go_num,bA.o.beside ((jt.refl (λb=>b=ct) _).set (p:=⟨ct,f,ϋ⟩) rfl _) ax.o,bs.o,Ϙ aw.o (((jt.refl (λ_=>True) ao).set (p:=⟨g,z* 6+y,ϋ⟩) trivial (ι (f:Int))).set (p:=⟨ct,f,ϋ⟩) trivial (ι (cv+1))).size⟩
       case measure=>simp only[intOf];omega
    ·obtain rfl:z=s2.pks.length:=by omega
     have he: ¬(s2.pks.length:Int)<(s2.pks.length:Int):=by omega
     obtain⟨J,bf⟩:=ν ((s.ln (y:Int)).W.length);obtain⟨n2,bg⟩:=ν ((s2.ln (y:Int)).W.length);have hnb0:J<=1000/\n2<=1000:=⟨by have:=Sl bz.o.ok (y:Int);omega,by have:=Sl ay.o.ok (y:Int);omega⟩;have eD:=κ (MO ad.o.rm (y:Int) τ);have ex:=κ (aL.o.congr (f':=λk=>zL (y:Int) k s2.book) (λk _=>aU.o.cnt y k));have aV:=κ bf;have az:=κ bg;have bF:=κ (aU.o.snt y);rw[bf,bg] at bF;clear bf bg;have eC:Hid (sn<wr.heap.size):=κ ad.o.sn.lt
     go_upto_region 51 with ((go_at_call 14;(go_call eD.o as e M ⟨⟨jW,rfl,bn⟩,aF⟩;obtain⟨jV,jF,gT,-,er,-⟩:=bn.sl ζ;subst gT;have aS:=κ er;have bx:=κ (λb N=>bn.ge (b:=b) N);rw[az.o];have O:=κ (ad.o.more aF);have aJ:=κ (ex.o.more aF);have aM:Hid (base<=M.heap.size):=κ (Ϙ aP.o aF.size);clear aF bn er)))
     obtain⟨ap,jI⟩:=O.o.was.get y hlt6;rw[aV.o] at ap
     go_upto_if 202 with fail
     generalize ep:decide (J<n2)=q;have bE:=κ ep;clear ep
     go_cut [] from 203 to 226 (λI=>LgC w1 I R W B sn d H base ab [ct,d,H,sn,W,B] (δ ah s2.pks.length ae) s2 (vm (upF s s2 y s2.pks.length) s2.pks.length) ag (EF s2) ai (λk=>if k<y+1 then zL (k:Int) 1 s2.book else zL (k:Int) 1 s.book) (λk=>((s.ln (k:Int)).W.length:Int)) xc/\AN 9 96 I ct (λk=>zL (y:Int) k s2.book)/\base<=I.heap.size)
     case first=>
      obtain⟨af,bl⟩:=bF.o;have ei:=WZ (y:Int) 1 s.book;have aD:=bz.o.ok.num.book;obtain⟨c1,bc⟩:=ν (zL (y:Int) 1 s.book);rw[bc] at af ei;have jJ:0<=c1/\c1<=1000000:=by omega
      have aQ:=κ bc;clear ei aD bc;cases q with
      | true=>
       have ar:J<n2:=Ϛ bE.o;obtain⟨o,em,bi⟩:=bl ar;rw[ϐ ar] at af;obtain rfl:n2=J+1:=by
        have:=ϵ List.length em;rw[az.o,Ϗ,C9,aV.o] at this;exact this
       obtain⟨ef,gW⟩:=ay.o.ok.ow.bel (y:Int) o.1 1 bi;obtain⟨ba,hf,c5,en,el,gX,eh,v5,bd,-⟩:=aS.o J (by rw[az.o];omega);have ek:((s2.ln (y:Int)).W[J]'(by rw[az.o];omega))=o:=by
        have e:J=(s.ln (y:Int)).W.length:=aV.o.symm;subst e;simp[em]
       rw[ek] at bd;obtain⟨an,be⟩:=Ϻ ef;have hb:an<s2.pks.length:=by omega
       have ak:=eh 0 ζ;rw[bd,be,G1] at ak;have ha:sn≠ba:=by have:=bx.o ba (by rw[en];rfl);have:=eC.o;omega
       have eq:c1+((J:Int)+1-(J:Int))=zL (y:Int) 1 s2.book:=by rw[af];push_cast;omega
       have eB:=κ eq;have ac:=κ ((O.o.more (ql.drewN M 1)).sent y hlt6 (zL (y:Int) 1 s2.book));have aH:Hid (jt (λb=>b=sn) M ((M.drewN 1).setCell ⟨sn,y,ϋ⟩ (ι (zL (y:Int) 1 s2.book)))):=κ ((jt.of_more (S:=λb=>b=sn) (ql.drewN M 1)).set (p:=⟨sn,y,ϋ⟩) rfl _);have ew:Hid (((M.drewN 1).setCell ⟨sn,y,ϋ⟩ (ι (zL (y:Int) 1 s2.book))).cell? ⟨ba,hf+J* 2,ϋ⟩=ϊ (ι (an:Int))):=κ (by rw[aH.o.cellN el (λe=>ha e.symm)];exact ak);have aR:=κ (aJ.o.away aH.o (λe=>ax.o.2.2.2.1 e.symm));obtain⟨g,cap,av,U,-,-⟩:=ac.o.put an y (by rw[vt];exact hb) hlt6;injection av with hu1 hu2 hu3
       subst hu1;clear hu2 hu3
       rw[kf,show (λx=>upF s s2 y s2.pks.length x (an:Int)) (y:Int)=1 from by
        show upF s s2 y s2.pks.length (y:Int) (an:Int)=1;unfold upF qa3;rw[ϐ τ,<-be,bi]
        rfl] at U
       have ey:=κ U;have eA:=κ ap;obtain⟨cs,-⟩:=O.o.sn.get y hlt6;simp only[O1,C2,aQ.o] at cs;obtain⟨c2,gU⟩:=(O.o.more (ql.drewN M 1)).sn.get y hlt6;simp only[O1,C2,aQ.o] at c2;have ez:=κ cs;subst en;have jO:(an:Int)<(s2.pks.length:Int):=by omega
       clear af bl bi ef gW el gX eh bd ek be aS eq U ap cs ak;go_wp2;have aW: ∀x:qt M,x.w'.cell? ⟨sn,y,ϋ⟩=ϊ (ι c1):=λx=>by rw[x.h.cells _ _ O.o.sn.lt];exact ez.o
       have aX: ∀x:qt M,x.w'.cell? ⟨d,y,ϋ⟩=ϊ (ι (J:Int)):=λx=>by rw[x.h.cells _ _ O.o.was.lt];exact eA.o
       refine Qn M 11 12 [11] ?_
       refine qaE ?_
       (refine Qe ?_;intro K Y)
       refine Y _ _ ?_;clear Y K aW aX c2 gU;refine qA ?_;rw[eB.o];have al:=ew.o;have jG:=ey.o;have aN:Hid (base<=((M.drewN 1).setCell ⟨sn,y,ϋ⟩ (ι (zL (y:Int) 1 s2.book))).heap.size):=κ (Ϙ aM.o aH.o.size)
       have aK:=κ ({ac.o with sn:=ac.o.sn.congr (λk _=>by
        by_cases e:k=y
        ·subst e;rw[ϐ (F1 _),ϐ rfl]
        ·rw[ώ e];by_cases c:k<y
         ·rw[ϐ τ,ϐ c]
         ·rw[ώ τ,ώ c])}:LgC w1 _ R W B sn d H base ab [ct,d,H,sn,W,B] _ s2 (vm (upF s s2 y s2.pks.length) s2.pks.length) ag (EF s2) ai (λk=>if k<y+1 then zL (k:Int) 1 s2.book else zL (k:Int) 1 s.book) (λk=>((s.ln (k:Int)).W.length:Int)) xc)
       generalize (M.drewN 1).setCell ⟨sn,y,ϋ⟩ (ι (zL (y:Int) 1 s2.book))=W18 at *;go_wp2;go_meet;exact⟨aK.o,aR.o,aN.o⟩
      | false=>
       have ar: ¬J<n2:=A5 bE.o;rw[ώ ar,Int.add_zero] at af
       have aK:=κ ({O.o with sn:=O.o.sn.congr (λk _=>by
        by_cases e:k=y
        ·subst e;rw[ϐ (F1 _),ώ (O1 _),af];exact aQ.o.symm
        ·by_cases c:k<y
         ·rw[ϐ τ,ϐ c]
         ·rw[ώ τ,ώ c])}:LgC w1 _ R W B sn d H base ab [ct,d,H,sn,W,B] _ s2 (vm (upF s s2 y s2.pks.length) s2.pks.length) ag (EF s2) ai (λk=>if k<y+1 then zL (k:Int) 1 s2.book else zL (k:Int) 1 s.book) (λk=>((s.ln (k:Int)).W.length:Int)) xc)
       clear af bl ar ap
       go_wp2_with fail
       go_meet;exact⟨aK.o,aJ.o,aM.o⟩
     case rest=>
     obtain⟨eb,al,eg⟩:=hcut;clear O aJ aM aS bx ap;have ac:=κ eb;have bp:=κ al;have aN:=κ eg;obtain⟨Bk,bk,ea,aD⟩:=ac.o.rm.bk;have bw:=κ (Ls (aD.more (ql.drewN wc 1)) (y:Int) (by have:=ay.o.ok.num.book;omega));unfold xH at bw;obtain⟨am,-⟩:=ac.o.sn.get y hlt6;simp only[F1,A7] at am;have bG:=κ am;have aR:=κ bp.o.nine;have bv:=κ ea;have ec:=κ (bp.o.get 1 ζ).1;clear eb al eg aD ea am
     go_upto_region 55 with fail
     have eE: ∀x:qt wc,x.w'.cell? ⟨R,0,ϋ⟩=ϊ (π (ϊ ⟨Bk,0,ϋ⟩)):=λx=>by rw[x.h.cells _ _ (Gb bv.o).2];exact bv.o
     have aW: ∀x:qt wc,x.w'.cell? ⟨ct,1,ϋ⟩=ϊ (ι (zL (y:Int) 1 s2.book)):=λx=>by rw[x.h.cells _ _ (Gb ec.o).2];exact ec.o
     have aX: ∀x:qt wc,x.w'.cell? ⟨sn,y,ϋ⟩=ϊ (ι (zL (y:Int) 1 s2.book)):=λx=>by rw[x.h.cells _ _ (Gb bG.o).2];exact bG.o
     have eu:=λw=>qbo (zL (y:Int) 0 s2.book) (zL (y:Int) 1 s2.book) (zL (y:Int) 2 s2.book) (zL (y:Int) 3 s2.book) (zL (y:Int) 4 s2.book) (zL (y:Int) 5 s2.book) (zL (y:Int) 6 s2.book) (zL (y:Int) 7 s2.book) (zL (y:Int) 8 s2.book) w
     refine Qn wc 16 16 [6] ?_;refine jh rfl rfl (qk ρ) 96 (.tmp 23) rfl ct 0 rfl [ι (zL (y:Int) 0 s2.book),ι (zL (y:Int) 1 s2.book),ι (zL (y:Int) 2 s2.book),ι (zL (y:Int) 3 s2.book),ι (zL (y:Int) 4 s2.book),ι (zL (y:Int) 5 s2.book),ι (zL (y:Int) 6 s2.book),ι (zL (y:Int) 7 s2.book),ι (zL (y:Int) 8 s2.book)] _ (λw' hc=>by obtain⟨z,rfl⟩:=hc;exact xy (qq z.h aR.o)) underlying96 rfl ξ ?_;intro K Y;go_simp;refine Y _ ?_;clear Y K
     refine Qq5 ?_
     (refine Ql ?_;intro K Y)
     (with_reducible refine bw.o.mono ?_)
     rintro e et ⟨rfl,es⟩;have aB:Hid (ql wc et):=κ ((ql.drewN wc 1).trans es);clear es;refine⟨_,rfl,qk aB.o,Y _ _ ?_⟩;clear Y K
     iterate 9 (refine qE rfl rfl (qk aB.o) ?_;intro K Y;go_big_quiet_op;go_big_quiet_on)
     refine qA ?_;clear eE aW aX eu;have br:=κ (LgC.drop (G:=[d,H,sn,W,B]) (ac.o.more aB.o) η);have ev:Hid (base<=et.heap.size):=κ (Ϙ aN.o aB.o.size);go_wp2;go_roundw
     case rel=>exact⟨y+1,τ,by go_num,{br.o with row:=by rw[KS (g':=upF s s2 y s2.pks.length) (λx i hi=>qbq x i hi)];exact br.o.row},ev.o⟩
     case measure=>simp[intOf];omega
  ·obtain rfl:y=6:=by omega
   have hd: ¬((6:Nat):Int)<6:=by omega
   go_wp2;exact gY _ _ _ _ _ _ _ _ _ _ _ _ _ _ _ _ _ _ _ _ _ _ _ _ _ _ _ _ _ _ _ _ _ _ _ _ _ _ _ _ _ _ _ _ _ _ _ _ _ _ _ _ _ _ _ _ _ _ _ _ _ _ _ _ _ _ _ _ _ _ _ _ _ _ _ _ _ _ _ _ _ _ _ _ _ _ _ _ _ _ _ _ _ _ _ _ _ _ _ _ _ _ _ _ _ _ _ _ _ _ _ _ _ _ _ _ _ _ aA.o aO.o
section
variable {w0 w w':World} {R:Nat} {s s':RmS} {F F' Fn:List Nat} {n:Nat}
def HV (h:RmR w0 w R s F) (U:qV n s) (aa:n<=100000) (a:A22) (H:Option Addr) (d:Nat) (ad:SlI .u8 w (δ H a.b.length d) a.b) (O:Byt a.b) (Y:a.b.length<=400) (ac:U16 a.seq) (ab:U32 a.own):
  Calls prog 12 #[γ R,θ #[ι a.act,ι a.sub,ι a.pub,ι a.layer,δ H a.b.length d,ι a.w.1,ι a.w.2,a.acc,ω a.own,ω a.stamp,φ a.seq,ω a.s0,ω a.s1,ω a.s2]] w λe w'=>
   e= .returned (.tuple #[ι (doR s a).2.1,μ (doR s a).2.2])/\RmR w0 w' R (doR s a).1 F/\qw F w w':=by
 obtain⟨k,rfl,h⟩:=h;exact(RDo h U aa a H d ad O Y ac ab).mono λe w' ⟨k',I,J,M,N⟩=>⟨J,⟨k',I,M⟩,N⟩
end
def RZ {d:World} (h:RmR d w R s F):Calls prog 26 #[γ R] w λe w'=> ∃v,e= .returned v/\je 2 RO (λ_=>False) w' w.heap.size 37 v s.workers/\ql w w':=by
 obtain⟨k,rfl,T,vp,H,h⟩:=h;exact O7 h
def cfq (c:CfR) (m:ql (w.alloc (.cells #[ι c.room,ι c.hold,ι c.wait,ι c.space,ι c.retry,ι c.most] 25)) w1):
  ql w w1/\w1.cell? ⟨w.heap.size,0,ϋ⟩=ϊ (ι c.room)/\w1.cell? ⟨w.heap.size,1,ϋ⟩=ϊ (ι c.hold)/\w1.cell? ⟨w.heap.size,2,ϋ⟩=ϊ (ι c.wait)/\w1.cell? ⟨w.heap.size,3,ϋ⟩=ϊ (ι c.space)/\w1.cell? ⟨w.heap.size,4,ϋ⟩=ϊ (ι c.retry)/\w1.cell? ⟨w.heap.size,5,ϋ⟩=ϊ (ι c.most):=by
 have B:=qq m (qj w _);exact⟨X8.trans m,qm B 0 rfl,qm B 1 rfl,qm B 2 rfl,qm B 3 rfl,qm B 4 rfl,qm B 5 rfl⟩
def qax (n:Int) (c:UInt8):Int:=10* n+((c.toNat:Int)-48)
def OP (l:List UInt8):Int:=l.foldl qax 0
def RM (c:UInt8):Bool:=decide (48<=c.toNat)&&decide (c.toNat<=57)
def OX (l:List UInt8) (i:Nat) (h:i<l.length):OP (l.take (i+1))=10* OP (l.take i)+((l[i].toNat:Int)-48):=by
 unfold OP;rw[Φ h,Ξ];rfl
def RR (l:List UInt8) (H: ∀c∈l,RM c=ό): ∀i,i<=l.length->0<=OP (l.take i)/\OP (l.take i)<((10 ^ i:Nat):Int)
 | 0,_=>by simp[OP]
 | i+1,h=>by
  obtain⟨I,J⟩:=RR l H i τ;have d:=H _ (ϡ (show i<l.length by omega));unfold RM at d;rw[B4] at d;have M:=Ϛ d.1;have N:=Ϛ d.2;rw[OX l i τ,Nat.pow_succ];generalize 10 ^ i=p at *;omega
structure NH (wd:ByteArray) (most n:Int):Prop where
 pos:1<=wd.data.toList.length
 few:wd.data.toList.length<=9
 dig: ∀c∈wd.data.toList,RM c=ό
 val:OP wd.data.toList=n
 le:n<=most
def To (s:ByteArray):s.size=s.data.toList.length:=rfl
def RF {d:ByteArray} {ad n:Int} (h:NH d ad n) (w:World):
  Calls prog 214 #[.string d,ι ad] w λe w'=>e= .returned (ι n)/\ql w w':=by
 obtain⟨ak,am,M,ac,az⟩:=h;obtain⟨l,H⟩:=ν (d.data.toList);obtain⟨cap,W1,ao,aa,O⟩: ∃cap W1,(convert 9 35 (.string d)).run prog w= .ok (δ (ϊ ⟨w.heap.size,0,ϋ⟩) l.length cap) W1/\(∀i (hi:i<l.length),W1.cell? ⟨w.heap.size,i,ϋ⟩=ϊ (υ (l[i].toNat:Int)))/\ql w W1:=by
  subst H;refine⟨_,_,run_bytes_of_string w 9 35 5 d underlying9 underlying35 underlying5,λi hi=> ?_,(ql.drewN w 1).al _⟩;have e:=World.cell?_alloc_mark w.drew (bytesRow d (grownCap w d.size 0 5)) 5 ((bytesRow d (grownCap w d.size 0 5)).size,(bytesRow d (grownCap w d.size 0 5)).size+1) i;refine e.trans ?_;rw[bytesRow_at d _ i (by simpa using hi)];simp
 have af:=κ aa
 have ag:Hid (∀i (hi:i<l.length),(48:Int)<=l[i].toNat/\(l[i].toNat:Int)<=57):=κ (λi hi=>by
  subst H;have I:=M _ (ϡ hi);unfold RM at I;rw[B4] at I;have ax:=Ϛ I.1;have ay:=Ϛ I.2
  omega)
 have ae:=κ (RR l (by rw[<-H];exact M));have aj:=κ (OX l);have ai:Hid (OP (l.take l.length)=n):=κ (by rw[ϱ,<-H];exact ac);have aA:(d.size:Int)=(l.length:Int):=by rw[To,H]
 rw[H] at ak am;have aB: ¬(l.length:Int)<1:=by omega
 have aC: ¬(9:Int)<(l.length:Int):=by omega
 have ah:=κ O;clear aa M ac H O
 go_enter func214,ntmps214
 go_wp2
 go_loopw [5,20] (λu N wr=> ∃i:Nat,i<=l.length/\N= ι i/\u= ι (OP (l.take i))/\ql W1 wr) (λ_ N _=>l.length-(intOf N).toNat)
 case atStart=>exact⟨0,τ,rfl,rfl,ql.refl _⟩
 case round=>
  obtain⟨i,hi,rfl,rfl,ab⟩:=hrel;have J:=κ ab;clear ab ao;by_cases hlt:i<l.length
  ·have ap:(i:Int)<(l.length:Int):=by omega
   have au:wr.cell? ⟨w.heap.size,i,ϋ⟩=ϊ (υ (l[i].toNat:Int)):=by
    have e:=af.o i hlt;rw[J.o.cells _ _ (Gb e).2];exact e
   obtain⟨av,aw⟩:=ag.o i hlt;obtain⟨ar,U⟩:=ae.o i τ;have Y:10 ^ i<=10 ^ 9:=D6 ζ τ;have an:=aj.o i hlt;generalize OP (l.take i)=q at *;generalize ((l[i].toNat:Nat):Int)=c at *;have aD: ¬c<48:=by omega
   have aE: ¬57<c:=by omega
   have aG:q<=1000000000:=by
    generalize 10 ^ i=p at U Y;omega
   have aF:IntKind.u8.wrap (c-48)=c-48:=IntWalk.u8_in _ τ;clear U Y;go_wp2;go_roundw
   case rel=>exact⟨i+1,τ,by go_num,by rw[an],J.o⟩
   case measure=>simp[intOf];omega
  ·obtain rfl:i=l.length:=by omega
   have ap: ¬(l.length:Int)<(l.length:Int):=by omega
   have aq:=ai.o;rw[aq];go_wp2;go_ret;exact⟨rfl,ah.o.trans J.o⟩
def RTx:qL ByteArray:=λ_ cs s=>cs=[.string s]
def Tm:QQ RTx:=λ_ _ _ _ _ h=>h
def RA (c:UInt8):Int:=if c=115 then 65535 else if c=116 then 20 else 999999999
def SlP.strs {I:Option Addr} {L:List ByteArray} (h:SlP 1 RTx w (δ I n cap) L) (m:ql w w') (i:Nat) (hi:i<L.length): ∃b d,I=ϊ ⟨b,d,ϋ⟩/\w'.cell? ⟨b,d+i,ϋ⟩=ϊ (.string L[i]):=by
 obtain⟨aa,U,e,_,J,_⟩:=h;injection e with e1 e2 e3
 subst e1;obtain⟨b,d,cs,rfl,M,Y,N,O⟩:=J i hi;refine⟨b,d,rfl, ?_⟩;have H:=N 0 τ;rw[X5,G1] at H;rw[m.cells _ _ M,H,show cs=[.string L[i]] from O];rfl
structure Ol (fm:ByteArray) (ws:List ByteArray) (ns:List Int):Prop where
 len:ws.length=fm.data.toList.length
 few:ws.length<=100
 pos:0<ws.length
 same:ns.length=ws.length
 ok: ∀i (h:i<ws.length) (h1:i<fm.data.toList.length) (h2:i<ns.length),NH ws[i] (RA fm.data.toList[i]) ns[i]
def Rs {I:ByteArray} {d:List ByteArray} {H:List Int} (h:Ol I d H) (aC:Option Addr) (cap:Nat) (w:World) (aE:SlP 1 RTx w (δ aC d.length cap) d):
  Calls prog 160 #[.string I,δ aC d.length cap] w λe w'=>(∃g cap,e= .returned (δ (ϊ ⟨g,0,ϋ⟩) H.length cap)/\w.heap.size<=g/\g<w'.heap.size/\ ∀i y,H[i]? =ϊ y->w'.cell? ⟨g,i,ϋ⟩=ϊ (ι y))/\ql w w':=by
 obtain⟨aU,hi,aR,aS,aT⟩:=info_parts (P:=prog) (e:=3) (z:= ι 0) (size:=1) (bytes:=8) ξ;obtain⟨J,bc,be,aq,ar⟩:=h;have aJ:=κ aE;have aL:=κ ar;have bf:(I.size:Int)=(d.length:Int):=by rw[J];rfl
 have aF:Hid (∀i (hi:i<d.length) (J:i<I.data.toList.length) (wr:World),(Instr.index 9 (.string I) (ι (i:Int))).run prog wr= .ok (υ (I.data.toList[i].toNat:Int)) wr):=κ (λi hi J wr=>by
  rw[run_index_string wr 9 I .i64 (i:Int) underlying9,dif_pos ⟨τ,τ⟩]
  rfl)
 have aG:=κ J;have M:=κ aq;clear ar aE J aq
 go_enter func160,ntmps160
 go_wp2
 go_loopw [5,17] (λu ah wr=> ∃i:Nat,i<=d.length/\ah= ι i/\(∃aD aB an,u= δ aD aB an)/\wr.ownsRow w.heap.size 3 1 u (H.take i).length ((H.take i).map (Value.int .i64))/\ql w wr) (λ_ ah _=>d.length-(intOf ah).toNat)
 case atStart=>exact⟨0,τ,rfl,⟨_,_,_,rfl⟩,World.ownsRow_nil _ _ _ _,ql.refl _⟩
 case round=>
  obtain⟨i,bd,rfl,⟨aD,aB,an,rfl⟩,az,ay⟩:=hrel;have ak:=κ az;have Y:=κ ay;clear az ay;by_cases hlt:i<d.length
  ·have aO:(i:Int)<(d.length:Int):=by omega
   have aw:i<I.data.toList.length:=by have:=aG.o;omega
   have ax:i<H.length:=by have:=M.o;omega
   obtain⟨b,bj,rfl,aX⟩:=aJ.o.strs Y.o i hlt;have aA:=aF.o i hlt aw;have aa:=κ (RF (aL.o i hlt aw ax));have aK:Hid (H.take (i+1)=H.take i++[H[i]]):=κ (Φ ax);have bg:(H.take i).length<=100:=by rw[Ϡ];omega
   obtain⟨c,U⟩:=ν (I.data.toList[i]);rw[U] at aA aa;obtain⟨m,ae⟩:=ν (RA c);rw[ae] at aa;generalize H[i]=y at *;generalize H.take i=fl at *;generalize d[i]=wd at *;clear U;obtain⟨q,ag⟩: ∃q:Int,((c.toNat:Nat):Int)=q:=⟨_,rfl⟩;rw[ag] at aA;have ao:c=115↔((c.toNat:Nat):Int)=115:=⟨λh=>by rw[h];rfl,λh=>UInt8.toNat_inj.1 (by show c.toNat=115;omega)⟩;have N:c=116↔((c.toNat:Nat):Int)=116:=⟨λh=>by rw[h];rfl,λh=>UInt8.toNat_inj.1 (by show c.toNat=116;omega)⟩;have aP:(q=115/\m=65535)∨(¬q=115/\q=116/\m=20)∨(¬q=115/\ ¬q=116/\m=999999999):=by
    rw[<-ae,<-ag];unfold RA;simp only[ao,N];by_cases q1:((c.toNat:Nat):Int)=115
    ·simp[q1]
    ·by_cases q2:((c.toNat:Nat):Int)=116<;>simp[q1,q2]
   clear ae ag ao N;rcases aP with ⟨rfl,rfl⟩ | ⟨aV,rfl,rfl⟩ | ⟨aV,n2,rfl⟩
   all_goals
    go_wp2_with (first | (go_at_call 214;(go_call aa.o _ as e w5 ⟨rfl,ai⟩;have ab:=κ (Y.o.trans ai);have am:=κ (jE ak.o ai);clear ai)) | (at_builtin;(refine qU _ rfl (.tmp 29) (.tmp 33) 107 rfl w.heap.size 3 aU (ι 0) 8 underlying107 hi aR aS aT rfl _ .i64 fl rfl (am.o.alloc _) _ [y] rfl (SlI.lit .i64 w5 [y] 3 _ 1 _ η rfl η η) (by simp;omega) ζ (by have:=ab.o.size;simp;omega) ?_;intro bl w6 aj ap _;have aI:=κ aj;have aH:Hid (ql w w6):=κ (Below.grown (ab.o.al _) ap (ab.o.al _).size (λb ad=>jS am.o ad));obtain⟨bh,aY,O⟩:=xl aj;rw[show (fl++[y]).length=fl.length+1 from by simp] at O;subst O;clear aj ap)))
    go_roundw
    case rel=>exact⟨i+1,τ,by go_num,⟨_,_,_,rfl⟩,by rw[aK.o];exact aI.o,aH.o⟩
    case measure=>simp[intOf];omega
  ·obtain rfl:i=d.length:=by omega
   have aO: ¬(d.length:Int)<(d.length:Int):=by omega
   have aM:Hid (H.take d.length=H):=κ (by rw[<-M.o,ϱ]);go_wp2;go_ret;have af:=ak.o;rw[aM.o] at af;obtain⟨bi,aZ,e,_,U,_⟩:=SlI.of_owns af (by have:=M.o;omega);rcases id af.2 with ⟨_,bb⟩ | ⟨g,ba,cur,N,ad,aN,_⟩
   ·have:=M.o;omega
   ·rw[N] at e ⊢;injection e with e3 e4 e5
    subst e3 e5;refine⟨⟨g,⟨_,rfl⟩,ad,lt_of_block aN,λi y aQ=> ?_⟩,Y.o⟩;obtain⟨av,O⟩:=ϟ.1 aQ;obtain⟨aW,bk,ac,_,au⟩:=U i av;injection ac with ac
    injection ac with e8 e9 _
    subst e8 e9;rw[E9] at au;rw[au,<-O];simp[av]
def Pl (w00:World) (pb:Nat) (o:Option RmS) (F:List Nat) (w:World):Prop:=pb∈F/\(∀b∈F,w00.heap.size<=b/\b<w.heap.size)/\ql w00 w/\match o with
 | none=>w.heap[pb]? =ϊ (.cells #[.pointer ϋ] 214 (0,0))
 | some s=> ∃R,RmR w00 w R s F/\w.heap[pb]? =ϊ (.cells #[.pointer (ϊ ⟨R,0,ϋ⟩)] 214 (0,0))
def PS (pb:Nat) (F:List Nat) (w w':World):Prop:=w.heap.size<=w'.heap.size/\ ∀b∈F,b≠pb->w'.heap[b]? =w.heap[b]?
section
variable {w00 w w' w'':World} {pb:Nat} {o:Option RmS} {F F' Fn:List Nat}
def PS.refl:PS pb F w w:=⟨ϔ _,λ_ _ _=>rfl⟩
def PS.trans (h:PS pb F w w') (k:PS pb F w' w''):PS pb F w w'':=⟨Ϙ h.1 k.1,λb d H=>(k.2 b d H).trans (h.2 b d H)⟩
def PS.sub (h:PS pb F w w') (I: ∀b∈F',b∈F):PS pb F' w w':=⟨h.1,λb d H=>h.2 b (I b d) H⟩
def PS.blk (h:PS pb F w w') {x:Obj} (d:b∈F) (H:b≠pb) (k:w.heap[b]? =ϊ x):w'.heap[b]? =ϊ x:=by rw[h.2 b d H];exact k
def Pl.lt (h:Pl w00 pb o F w): ∀b∈F,b<w.heap.size:=λb d=>(h.2.1 b d).2
def Pl.mut (h:Pl w00 pb o F w) (a:jt (λb=>b∈F') w w') (M: ∀b∈F',b∈F) (J:pb∉F'):Pl w00 pb o F w':=by
 obtain⟨N,I,O,d⟩:=h;refine⟨N,λb H=>⟨(I b H).1,ϗ (I b H).2 a.size⟩,a.to_more O (λb H=>(I b (M b H)).1), ?_⟩;cases o with
 | none=>exact a.blk d J
 | some s=>exact d.elim λR d=>⟨R,d.1.mut (a.mono M),a.blk d.2 J⟩
def Pl.on (h:Pl w00 pb o F w) (m:ql w w'):Pl w00 pb o F w':=h.mut (F':=[]) (jt.of_more m) (λ_ d=>by cases d) (λd=>by cases d)
def Pl.stay (h:Pl w00 pb o F w) (m:ql w w'):PS pb F w w':=⟨m.size,λb d _=>m.block b (h.lt b d)⟩
def Pl.sub (h:Pl w00 pb o F w) (H: ∀b∈F',b∈F) (N:pb∈F'):Pl w00 pb o F' w:=by
 obtain⟨O,I,J,d⟩:=h;refine⟨N,λb M=>I b (H b M),J, ?_⟩;cases o with
 | none=>exact d
 | some s=>exact d.elim λR d=>⟨R,d.1.sub H,d.2⟩
def Pl.mutA (h:Pl w00 pb o F w) (a:jt (λb=>b∈F') w w') (O: ∀b∈F',b∈F) (N:pb∉F') (M: ∀b∈Fn,b∈F∨w.heap.size<=b/\b<w'.heap.size):Pl w00 pb o (Fn++F) w':=by
 obtain⟨U,d,J,H⟩:=h;have Y:=J.size;refine⟨ϓ _ U,λb I=> ?_,a.to_more J (λb I=>(d b (O b I)).1), ?_⟩
 ·rcases ϯ.1 I with e | e
  ·rcases M b e with f | f
   ·exact⟨(d b f).1,ϗ (d b f).2 a.size⟩
   ·exact⟨τ,f.2⟩
  ·exact⟨(d b e).1,ϗ (d b e).2 a.size⟩
 ·cases o with
  | none=>exact a.blk H N
  | some s=>exact H.elim λR H=>⟨R,H.1.mutA (a.mono O) M,a.blk H.2 N⟩
def Pl.adds (h:Pl w00 pb o F w) (m:ql w w') (H: ∀b∈Fn,w.heap.size<=b/\b<w'.heap.size):Pl w00 pb o (Fn++F) w':=h.mutA (F':=[]) (jt.of_more m) (λ_ d=>by cases d) (λd=>by cases d) (λb d=>ϕ (H b d))
end
def SlP.rest {d:Nat} {x:ByteArray} {L:List ByteArray} (h:SlP 1 RTx w (δ (ϊ ⟨b,d,ϋ⟩) (L.length+1) cap) (x::L)):SlP 1 RTx w (δ (ϊ ⟨b,d+1,ϋ⟩) L.length (cap-1)) L:=by
 obtain⟨ae,ab,e,I,J,M,ac,ad⟩:=h;injection e with e1 e2 e3
 subst e1 e3;rw[ϙ] at I M;refine⟨_,_,rfl,τ,λi hi=> ?_,τ,τ,λh=>by cases h⟩;obtain⟨aa,af,cs,e,N,Y,O,H⟩:=J (i+1) (by rw[ϙ];omega);injection e with e
 injection e with e6 e7 _
 subst e6 e7;refine⟨b,d+1,cs,rfl,N,Y,λj U=> ?_,by rw[List.getElem_cons_succ] at H;exact H⟩;rw[<-O j U]
 congr 2
 omega
def NZ (p:Addr) (w:World):
  CallsD prog 158 #[π (ϊ p)] .returning w λe I w'=>e= .returned (.tuple #[])/\I= .returning/\w'=w:=by
 refine callsD_of_wpS func158 rfl λd cs H=> ?_
 apply wpS_seq;apply wpS_region;simp[wpOpsS,go_sem,recoverD,H,ntmps158,Exit.thenS];apply wpS_seq;apply wpS_region;simp[wpOpsS,go_sem,Exit.thenS];refine wpS_cond (t:=ύ) (by simp[Act.eval,Array.replicate]) ?_;refine wpS_of_wp (wp_skip ?_);cases d
 simp_all [bodyPostS,results,results158,Exit.thenS]
def Sk (more:List UInt8):List UInt8:=if more=[] then [111,107] else [111,107,32]++more
def Pl.room {d:World} (h:Pl d pb (ϊ s) F w): ∃R,RmR d w R s F/\w.heap[pb]? =ϊ (.cells #[γ R] 214 (0,0)):=h.2.2.2
def NL {N:World} {ar:Nat} {o aj:Option RmS} {ai aA:ByteArray} {more:List UInt8} {args:List ByteArray} {aq:List Int}
  (h:Pl N pb o F w) (ak:SlP 1 RTx w (δ (ϊ ⟨b,ar,ϋ⟩) (args.length+1) cap) (ai::args))
  (hF: ∀w,Calls prog 161 #[.string ai] w λe w'=>e= .returned (.string aA)/\w'=w) (ah:Ol aA args aq)
  (aZ:(ai.toList==([114,111,111,109]:List UInt8))=o.isNone) (aW:more.length<=1000)
  (aC: ∀(F:List Nat) (w:World) (g cap:Nat),Pl N pb o F w->g∈F->g≠pb->(∀i y,aq[i]? =ϊ y->w.cell? ⟨g,i,ϋ⟩=ϊ (ι y))->Calls prog 162 #[γ pb,.string ai,δ (ϊ ⟨g,0,ϋ⟩) aq.length cap] w λe w'=>e= .returned (.string ⟨more.toArray⟩)/\Pl N pb aj F w'/\PS pb F w w'):
  Calls prog 101 #[γ pb,δ (ϊ ⟨b,ar,ϋ⟩) (args.length+1) cap] w λe w'=>e= .returned (.string ⟨(Sk more).toArray⟩)/\Pl N pb aj F w'/\PS pb F w w':=by
 obtain⟨W1,ao⟩:=ν (w.alloc (.cells #[.string ⟨#[]⟩] 9));have ag:Hid (ql w W1):=κ (by rw[<-ao];exact ql.alloc _ _);have av:Hid (W1.heap[w.heap.size]? =ϊ (.cells #[.string ⟨#[]⟩] 9 (0,0))):=κ (by rw[<-ao];exact qj _ _);have ab:Hid (Pl N pb o ([w.heap.size]++F) W1):=κ (h.adds ag.o (λb H=>by simp at H;subst H;exact⟨ϔ _,qn av.o⟩));have ap:Hid (pb≠w.heap.size):=κ (λe=>by have:=h.lt pb h.1;omega);have ay:Hid (PS pb F w W1):=κ (h.stay ag.o);have aT:args.length+1<=cap:=by
  obtain⟨bd,aQ,e,_,_,aM,_⟩:=id ak;injection e with _ _ e3
  subst e3;exact aM
 have aY:=ah.pos;have aU:=ah.few;obtain⟨aP,bc,e0,am⟩:=ak.strs ag.o 0 η;injection e0 with e0
 injection e0 with e1 e2 _
 subst e1 e2;rw[G1] at am;rw[List.getElem_cons_zero] at am;have ax:=κ (λw' (m:ql w w')=>Rs ah (ϊ ⟨b,ar+1,ϋ⟩) (cap-1) w' (SlP.keep Tm ak.rest m));have ba:(1:Int)<=(args.length:Int)+1:=by omega
 have bb: ¬cap=1:=by omega
 have aK:=κ h.lt;clear h ak ah
 go_enter_defers func101,ntmps101
 go_upto_region 3 with fail
 clear am ao;refine zC W1 6 [(0,ύ),(2,ύ),(3,ύ),(1,ό),(4,ό),(5,ύ)] ξ ξ ?_
 refine Qq3 ?_
 (refine Ql ?_;intro K aa)
 go_call hF _ as e w5 ⟨rfl,rfl⟩;refine⟨_,rfl,qk ((ql.refl _).dr 1),aa _ _ ?_⟩;clear aa K
 (refine Ql ?_;intro K aa)
 go_call ax.o _ (ag.o.dr 1) as e w6 ⟨⟨g,aL,rfl,aD,aE,aF⟩,aI⟩;have ac:Hid (ql W1 w6):=κ (((ql.refl W1).dr 1).trans aI);refine⟨_,rfl,qk ac.o,aa _ _ ?_⟩;clear aa K
 iterate 1 (refine qE rfl rfl (qk ac.o) ?_;intro K aa;go_big_quiet_op;go_big_quiet_on)
 refine qA ?_;have aH:W1.heap.size<=g:=aD;have aw:Hid (Pl N pb o ([g]++([w.heap.size]++F)) w6):=κ (ab.o.adds ac.o (λb H=>by simp at H;subst H;exact⟨aH,aE⟩));have aG:g≠pb:=λe=>by have:=ab.o.lt pb ab.o.1;omega
 have az:Hid (PS pb ([w.heap.size]++F) W1 w6):=κ (ab.o.stay ac.o);have ae:=κ (aC _ w6 g aL aw.o η aG aF);have aJ:Hid (w6.heap[w.heap.size]? =ϊ (.cells #[.string ⟨#[]⟩] 9 (0,0))):=κ (qq ac.o av.o);have ad:Hid (∀d,PS pb ([g]++([w.heap.size]++F)) w6 d->d.heap[w.heap.size]? =ϊ (.cells #[.string ⟨#[]⟩] 9 (0,0))):=κ (λd t=>t.blk η (λe=>ap.o e.symm) aJ.o)
 have af:Hid (∀d v,Pl N pb aj ([g]++([w.heap.size]++F)) d->PS pb ([g]++([w.heap.size]++F)) w6 d->Pl N pb aj F (d.setCell ⟨w.heap.size,0,ϋ⟩ v)/\PS pb F w (d.setCell ⟨w.heap.size,0,ϋ⟩ v)):=κ (λd v J I=>by
  have a:jt (λb=>b∈[w.heap.size]) d (d.setCell ⟨w.heap.size,0,ϋ⟩ v):=(jt.refl _ _).set η _;refine⟨(J.mut a (λb H=>by simp at H;subst H;simp) (λH=>by simp at H;exact ap.o H)).sub (λb H=>by simp[H]) ?_, ?_⟩
  ·have:=ab.o.1;rcases ϯ.1 this with e | e
   ·simp at e;exact ϩ e ap.o
   ·exact e
  ·refine ay.o.trans ((az.o.sub (λb H=>by simp[H])).trans ((I.sub (λb H=>by simp[H])).trans ⟨a.size,λb H aX=> ?_⟩));have aV:b<w.heap.size:=aK.o b H
   exact a.block b (by have:=ay.o.1;have:=az.o.1;have:=I.1;omega) (λe=>by simp at e;omega))
 have aS:=λw=>run_string_add_lists (P:=prog) w [111,107,32] more ζ τ
 clear aD aE aF aI hF aC ax aG aH;cases o with
 | none=>
  by_cases hq:more=[]
  ·subst hq
   go_wp2_with ((go_at_call 162;(go_call ae.o as e d ⟨rfl,J,I⟩;have M:=κ (ad.o d I);have an:=yw M.o 0;have Y:=β0 M.o;have O:=κ (af.o d (.string ⟨#[111,107]⟩) J I);clear J I)))
   refine leaves_cons (f:=158) (args:= #[γ w.heap.size]) η (by simp[go_sem]) ?_;refine(NZ ⟨w.heap.size,0,ϋ⟩ _).mono ?_;rintro e au w'' ⟨rfl,rfl,rfl⟩;have U: ∀v,(d.setCell ⟨w.heap.size,0,ϋ⟩ v).cell? ⟨w.heap.size,0,ϋ⟩=ϊ v:=λv=>World.cell?_setCell_same' _ _ v (by rw[Y];rfl)
   simp[Leaves,settle,results,results101,go_sem,U];exact⟨by rfl,O.o⟩
  ·have aO:(more==([]:List UInt8))=ύ:=by simp[hq]
   have al:Hid (Sk more=[111,107,32]++more):=κ (ώ hq);clear hq
   go_wp2_with ((go_at_call 162;(go_call ae.o as e d ⟨rfl,J,I⟩;have M:=κ (ad.o d I);have an:=yw M.o 0;have Y:=β0 M.o;have O:=κ (af.o d (.string ⟨([111,107,32]++more).toArray⟩) J I);clear J I)))
   refine leaves_cons (f:=158) (args:= #[γ w.heap.size]) η (by simp[go_sem]) ?_;refine(NZ ⟨w.heap.size,0,ϋ⟩ _).mono ?_;rintro e au w'' ⟨rfl,rfl,rfl⟩;have U: ∀v,(d.setCell ⟨w.heap.size,0,ϋ⟩ v).cell? ⟨w.heap.size,0,ϋ⟩=ϊ v:=λv=>World.cell?_setCell_same' _ _ v (by rw[Y];rfl)
   rw[al.o];simp[Leaves,settle,results,results101,go_sem,U];exact O.o
 | some s=>
  obtain⟨R,aN,aB⟩:=aw.o.room;have aR:=β0 aB;clear aN aB;by_cases hq:more=[]
  ·subst hq
   go_wp2_with ((go_at_call 162;(go_call ae.o as e d ⟨rfl,J,I⟩;have M:=κ (ad.o d I);have an:=yw M.o 0;have Y:=β0 M.o;have O:=κ (af.o d (.string ⟨#[111,107]⟩) J I);clear J I)))
   refine leaves_cons (f:=158) (args:= #[γ w.heap.size]) η (by simp[go_sem]) ?_;refine(NZ ⟨w.heap.size,0,ϋ⟩ _).mono ?_;rintro e au w'' ⟨rfl,rfl,rfl⟩;have U: ∀v,(d.setCell ⟨w.heap.size,0,ϋ⟩ v).cell? ⟨w.heap.size,0,ϋ⟩=ϊ v:=λv=>World.cell?_setCell_same' _ _ v (by rw[Y];rfl)
   simp[Leaves,settle,results,results101,go_sem,U];exact⟨by rfl,O.o⟩
  ·have aO:(more==([]:List UInt8))=ύ:=by simp[hq]
   have al:Hid (Sk more=[111,107,32]++more):=κ (ώ hq);clear hq
   go_wp2_with ((go_at_call 162;(go_call ae.o as e d ⟨rfl,J,I⟩;have M:=κ (ad.o d I);have an:=yw M.o 0;have Y:=β0 M.o;have O:=κ (af.o d (.string ⟨([111,107,32]++more).toArray⟩) J I);clear J I)))
   refine leaves_cons (f:=158) (args:= #[γ w.heap.size]) η (by simp[go_sem]) ?_;refine(NZ ⟨w.heap.size,0,ϋ⟩ _).mono ?_;rintro e au w'' ⟨rfl,rfl,rfl⟩;have U: ∀v,(d.setCell ⟨w.heap.size,0,ϋ⟩ v).cell? ⟨w.heap.size,0,ϋ⟩=ϊ v:=λv=>World.cell?_setCell_same' _ _ v (by rw[Y];rfl)
   rw[al.o];simp[Leaves,settle,results,results101,go_sem,U];exact O.o
def pkT:Pk:=⟨ύ,96,1,9,7,[],ύ,0,[],[16,0]⟩
def pkU:List Int:=[128,96,0,1,0,0,0,9,0,0,0,7,16,0]
def tpB:pkB pkT=pkU:=by decide
def cfT:CfR:=⟨2,2,1,1,2,1⟩
def tp0:RmS:=ud cfT
def tp1:RmS:=(tp0.publish 0 7 8 9).1
def tp2:RmS:=(tp1.join 0 50 5 100).1
def tp3:RmS:=(tp2.subscribe 0 0 0).1
def tp4:RmS:=(tp3.arrive pkU).1
def wkT:List Og:=[(0,0),(1,0),(2,0),(3,0),(4,0)]
def tpP (j:Nat):RmS:=(wkT.take j).foldl (λs w=>(s.pick w ό).1) tp4
def tp5:RmS:=tpP 5
def tq1:(tp0.publish 0 7 8 9).2=0:=by kernel_rfl
def tq2:(tp1.join 0 50 5 100).2=0:=by kernel_rfl
def tq3:(tp2.subscribe 0 0 0).2=0:=by kernel_rfl
def tq4:(tp3.arrive pkU).2=0:=by kernel_rfl
def tq5:tp4.workers=wkT:=by kernel_rfl
def tq6: ∀j<5,(tpP j).may (wkT.getD j (0,0))=ό:=by decide+kernel
def tq7:(tp5.ln 0).W=[(0,[128,96,0,5,0,0,0,100,0,0,0,50,16,0])]:=by kernel_rfl
def RmR.away {H:World} (h:RmR H w R s F) (I:RmR H w' R s' F) (t:qw F w w'):jt (λb=>H.heap.size<=b/\b∉F) w w':=by
 have m:=h.more;have d:=I.more;refine⟨d.os.trans m.os.symm,d.tape.trans m.tape.symm,d.output.trans m.output.symm,t.1,λb M J=> ?_⟩;by_cases e:b<H.heap.size
 ·rw[d.block b e,m.block b e]
 ·exact t.2 b (P9 λc=>J ⟨τ,c⟩)
def Pl.step {H:World} (h:Pl H pb (ϊ s) F w) (d:w.heap[pb]? =ϊ (.cells #[γ R] 214 (0,0))) (I:RmR H w' R s' F) (t:qw F w w'):Pl H pb (ϊ s') F w'/\PS pb F w w':=
 ⟨⟨h.1,λb d=>⟨(h.2.1 b d).1,ϗ (h.2.1 b d).2 t.1⟩,I.more,R,I,t.blk h.1 d⟩,t.1,λb d _=>t.2 b d⟩
def tk0:qV 0 tp0:=uQ (c:=cfT) rfl
def tk2:qV 2 tp2:=(tk0.publish 0 7 8 9 ζ).join 0 50 5 100
def tk4:qV 4 tp4:=(tk2.subscribe 0 0 0).arrive (b:=pkU) (Byt.of_all ζ) ζ
def te1:tp0.publish 0 7 8 9=(tp1,0):=X1 rfl tq1
def te2:tp1.join 0 50 5 100=(tp2,0):=X1 rfl tq2
def te3:tp2.subscribe 0 0 0=(tp3,0):=X1 rfl tq3
def te4:tp3.arrive pkU=(tp4,0):=X1 rfl tq4
def do1 {H:World} {g:Nat} (h:Pl H pb (ϊ tp0) F w) (d:g∈F) (ai:g≠pb) (I: ∀i y,([0,7,8,9]:List Int)[i]? =ϊ y->w.cell? ⟨g,i,ϋ⟩=ϊ (ι y)):
  Calls prog 162 #[γ pb,.string ⟨#[112,117,98,108,105,115,104]⟩,δ (ϊ ⟨g,0,ϋ⟩) 4 cap] w λe w'=>e= .returned (.string ⟨#[]⟩)/\Pl H pb (ϊ tp1) F w'/\PS pb F w w':=by
 obtain⟨R,aa,N⟩:=h.room;have ac:=κ h;have J:=κ aa;have ab:=κ N;have ah:w.cell? ⟨pb,0,ϋ⟩=ϊ (π (ϊ ⟨R,0,ϋ⟩)):=qm N 0 rfl;have ad: ∀x:qz (λb=>H.heap.size<=b/\b∉F) w,x.w'.cell? ⟨g,0,ϋ⟩=ϊ (ι 0):=λx=>x.cell (h.lt g d) (λc=>c.2 d) (I 0 _ rfl)
 have ae: ∀x:qz (λb=>H.heap.size<=b/\b∉F) w,x.w'.cell? ⟨g,1,ϋ⟩=ϊ (ι 7):=λx=>x.cell (h.lt g d) (λc=>c.2 d) (I 1 _ rfl)
 have af: ∀x:qz (λb=>H.heap.size<=b/\b∉F) w,x.w'.cell? ⟨g,2,ϋ⟩=ϊ (ι 8):=λx=>x.cell (h.lt g d) (λc=>c.2 d) (I 2 _ rfl)
 have ag: ∀x:qz (λb=>H.heap.size<=b/\b∉F) w,x.w'.cell? ⟨g,3,ϋ⟩=ϊ (ι 9):=λx=>x.cell (h.lt g d) (λc=>c.2 d) (I 3 _ rfl)
 clear h aa N I
 go_enter func162,ntmps162
 go_upto_region 8 with fail
 refine QN (λb=>H.heap.size<=b/\b∉F) w 19 19 [17] ?_
 refine qaz ?_
 (refine Ql ?_;intro K O)
 go_call MU (J.o.on (ql.drewN w 1)) rfl 0 7 8 9 te1 as e w5 ⟨rfl,M,t5⟩;have U:Hid (jt (λb=>H.heap.size<=b/\b∉F) w w5):=κ (((jt.refl _ w).drewN 1).trans ((J.o.on (ql.drewN w 1)).away M t5));refine⟨_,rfl,qi U.o,O _ _ ?_⟩;clear O K
 iterate 1 (refine qE rfl rfl (qi U.o) ?_;intro K O;go_big_quiet_op;go_big_quiet_on)
 refine qA ?_;have Y:=κ (ac.o.step ab.o M (qw.trans (J.o.stay (ql.drewN w 1)) t5));clear M t5;go_wp2;go_ret;exact⟨rfl,Y.o.1,Y.o.2⟩
def do2 {H:World} {g:Nat} (h:Pl H pb (ϊ tp1) F w) (d:g∈F) (ai:g≠pb) (I: ∀i y,([0,50,5,100]:List Int)[i]? =ϊ y->w.cell? ⟨g,i,ϋ⟩=ϊ (ι y)):
  Calls prog 162 #[γ pb,.string ⟨#[106,111,105,110]⟩,δ (ϊ ⟨g,0,ϋ⟩) 4 cap] w λe w'=>e= .returned (.string ⟨#[]⟩)/\Pl H pb (ϊ tp2) F w'/\PS pb F w w':=by
 obtain⟨R,aa,N⟩:=h.room;have ac:=κ h;have J:=κ aa;have ab:=κ N;have ah:w.cell? ⟨pb,0,ϋ⟩=ϊ (π (ϊ ⟨R,0,ϋ⟩)):=qm N 0 rfl;have ad: ∀x:qz (λb=>H.heap.size<=b/\b∉F) w,x.w'.cell? ⟨g,0,ϋ⟩=ϊ (ι 0):=λx=>x.cell (h.lt g d) (λc=>c.2 d) (I 0 _ rfl)
 have ae: ∀x:qz (λb=>H.heap.size<=b/\b∉F) w,x.w'.cell? ⟨g,1,ϋ⟩=ϊ (ι 50):=λx=>x.cell (h.lt g d) (λc=>c.2 d) (I 1 _ rfl)
 have af: ∀x:qz (λb=>H.heap.size<=b/\b∉F) w,x.w'.cell? ⟨g,2,ϋ⟩=ϊ (ι 5):=λx=>x.cell (h.lt g d) (λc=>c.2 d) (I 2 _ rfl)
 have ag: ∀x:qz (λb=>H.heap.size<=b/\b∉F) w,x.w'.cell? ⟨g,3,ϋ⟩=ϊ (ι 100):=λx=>x.cell (h.lt g d) (λc=>c.2 d) (I 3 _ rfl)
 clear h aa N I
 go_enter func162,ntmps162
 go_upto_region 10 with fail
 refine QN (λb=>H.heap.size<=b/\b∉F) w 18 18 [16] ?_
 refine qaA ?_
 (refine Ql ?_;intro K O)
 go_call Me (J.o.on (ql.drewN w 1)) rfl 0 50 5 100 ⟨ζ,ζ⟩ ⟨ζ,ζ⟩ te2 as e w5 ⟨rfl,M,t5⟩;have U:Hid (jt (λb=>H.heap.size<=b/\b∉F) w w5):=κ (((jt.refl _ w).drewN 1).trans ((J.o.on (ql.drewN w 1)).away M t5));refine⟨_,rfl,qi U.o,O _ _ ?_⟩;clear O K
 iterate 1 (refine qE rfl rfl (qi U.o) ?_;intro K O;go_big_quiet_op;go_big_quiet_on)
 refine qA ?_;have Y:=κ (ac.o.step ab.o M (qw.trans (J.o.stay (ql.drewN w 1)) t5));clear M t5;go_wp2;go_ret;exact⟨rfl,Y.o.1,Y.o.2⟩
def do3 {d:World} {g:Nat} (h:Pl d pb (ϊ tp2) F w) (H:g∈F) (ah:g≠pb) (I: ∀i y,([0,0,0]:List Int)[i]? =ϊ y->w.cell? ⟨g,i,ϋ⟩=ϊ (ι y)):
  Calls prog 162 #[γ pb,.string ⟨#[116,97,107,101]⟩,δ (ϊ ⟨g,0,ϋ⟩) 3 cap] w λe w'=>e= .returned (.string ⟨#[]⟩)/\Pl d pb (ϊ tp3) F w'/\PS pb F w w':=by
 obtain⟨R,aa,N⟩:=h.room;have ac:=κ h;have J:=κ aa;have ab:=κ N;have ag:w.cell? ⟨pb,0,ϋ⟩=ϊ (π (ϊ ⟨R,0,ϋ⟩)):=qm N 0 rfl;have ad: ∀x:qz (λb=>d.heap.size<=b/\b∉F) w,x.w'.cell? ⟨g,0,ϋ⟩=ϊ (ι 0):=λx=>x.cell (h.lt g H) (λc=>c.2 H) (I 0 _ rfl)
 have ae: ∀x:qz (λb=>d.heap.size<=b/\b∉F) w,x.w'.cell? ⟨g,1,ϋ⟩=ϊ (ι 0):=λx=>x.cell (h.lt g H) (λc=>c.2 H) (I 1 _ rfl)
 have af: ∀x:qz (λb=>d.heap.size<=b/\b∉F) w,x.w'.cell? ⟨g,2,ϋ⟩=ϊ (ι 0):=λx=>x.cell (h.lt g H) (λc=>c.2 H) (I 2 _ rfl)
 clear h aa N I
 go_enter func162,ntmps162
 go_upto_region 12 with fail
 refine QN (λb=>d.heap.size<=b/\b∉F) w 12 12 [10] ?_
 refine Nx ?_
 (refine Ql ?_;intro K O)
 go_call LQ (J.o.on (ql.drewN w 1)) tk2 ζ 0 0 0 te3 as e w5 ⟨rfl,M,t5⟩;have U:Hid (jt (λb=>d.heap.size<=b/\b∉F) w w5):=κ (((jt.refl _ w).drewN 1).trans ((J.o.on (ql.drewN w 1)).away M t5));refine⟨_,rfl,qi U.o,O _ _ ?_⟩;clear O K
 iterate 1 (refine qE rfl rfl (qi U.o) ?_;intro K O;go_big_quiet_op;go_big_quiet_on)
 refine qA ?_;have Y:=κ (ac.o.step ab.o M (qw.trans (J.o.stay (ql.drewN w 1)) t5));clear M t5;go_wp2;go_ret;exact⟨rfl,Y.o.1,Y.o.2⟩
end Go.Proofs.YtlmllmonabafjaaGreatDoor
