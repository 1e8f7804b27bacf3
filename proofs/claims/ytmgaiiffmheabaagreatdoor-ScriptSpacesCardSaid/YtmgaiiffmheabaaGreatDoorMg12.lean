/- x -/
import Derived.Test.YtmgaiiffmheabaaGreatDoorMg11
import Derived.Lib.SplitLaws
namespace Go.Proofs.YtmgaiiffmheabaaGreatDoor
open Option renaming some->ϊ,none->ϋ
open Bool renaming true->ό,false->ύ
open Go.Value renaming bool->μ,slice->δ,pointer->π,agg->θ
open Go.IntKind renaming i64->ι,u8->υ,u16->φ,u32->ω,i32->χ,u64->ψ
open _root_.Go.Proofs.Tryz
set_option linter.all false
set_option maxHeartbeats 8000000
open Go.RowKit
set_option maxRecDepth 100000
variable {args ws R:List ByteArray} {ns:List Int} {F:List Nat} {o:Option RmS} {L:List (List ByteArray)} {d fm H ln:ByteArray} {s:RmS} {w:World} {l:List UInt8} {p:Option RmS×List UInt8} {t pb n b B j i:Nat} {v:Value} {P:Program} {α:Type} {c c1:UInt8}
def qcs (q:RqS):List UInt8:=Lib.join ([q.o.1,q.o.2,q.at_].map Lib.itoa) [58]
def qcc (L:List RqS):List UInt8:=qcb (L.map qcs)
def RqB (q:RqS):Prop:=(0<=q.o.1/\q.o.1<=1000000)/\(0<=q.o.2/\q.o.2<=1000000)/\(0<=q.at_/\q.at_<=1000000)/\q.body.length<=400
def qcH {q:RqS} (h:RqB q):(qcs q).length<=42:=by
 obtain⟨G,H,I,_⟩:=h
 exact qbO [q.o.1,q.o.2,q.at_] (λn d=>by
  simp at d
  rcases d with rfl | rfl | rfl<;>omega) [58]
def qeA {aO:World} (bt:s.reqs.length<=170000) (I: ∀q∈s.reqs,RqB q) (aL:Lib.TabIs prog aO N9 .u64 Lib.pow10Tab) (h:Pl aO pb (ϊ s) F w):
  Calls prog 81 #[γ pb] w λe w'=>e= .returned (.string ⟨(qcc s.reqs).toArray⟩)/\ql w w':=by
 obtain⟨bl,hi,bg,bh,bi⟩:=info_parts (P:=prog) (e:=9) (z:= .string ByteArray.empty) (size:=1) (bytes:=16) ξ;obtain⟨R,aG,aF⟩:=h.room;have bb:w.cell? ⟨pb,0,ϋ⟩=ϊ (π (ϊ ⟨R,0,ϋ⟩)):=qa aF 0 rfl;have aU:=κ (λw' (m:ql w w')=>NK aL (h.2.2.1.trans m));have aA:=κ (qfu aG τ (λq be=>by have:=(I q be).2.2.2;omega));have au:=κ I;clear aG aF aL h I;generalize s.reqs=L at *
 go_enter func81,ntmps81
 go_upto_region 3 with ((go_at_call 129;(go_call aA.o as e w1 ⟨⟨bw,bn,rfl,aH⟩,aM⟩;have aC:=κ aM;have aP:=κ aH;clear aH aM)))
 clear bb aA;go_wp2
 go_loopw [3,12] (λu an wr=> ∃i:Nat,i<=L.length/\an= ι i/\(∃aq ap af,u= δ aq ap af)/\je 1 RTx (λ_=>False) wr w1.heap.size 9 u ((L.take i).map λo=>⟨(qcs o).toArray⟩)/\ql w1 wr) (λ_ an _=>L.length-(intOf an).toNat)
 case atStart=>exact⟨0,τ,rfl,⟨_,_,_,rfl⟩,je.nil _ _ _ _ _ _,ql.refl _⟩
 case round=>
  obtain⟨i,bs,rfl,⟨aq,ap,af,rfl⟩,N,ai⟩:=hrel;have ay:=κ N;have O:=κ ai;by_cases hlt:i<L.length
  ·have bc:(i:Int)<(L.length:Int):=by omega
   obtain⟨g,rfl,Y,e0,ag,ah,aa,ab,ac,aE⟩:=aP.o i hlt;have aI:=au.o L[i] (ϥ hlt);have aB:Hid ((L.take (i+1)).map (λo=>(⟨(qcs o).toArray⟩:ByteArray))=(L.take i).map (λo=>(⟨(qcs o).toArray⟩:ByteArray))++[⟨(qcs L[i]).toArray⟩]):=κ (by rw[ϡ hlt,ϩ];rfl);have bu:((L.take i).map (λo=>(⟨(qcs o).toArray⟩:ByteArray))).length<=170000:=by rw[ϱ,Ϥ];omega
   generalize (L.take i).map (λo=>(⟨(qcs o).toArray⟩:ByteArray))=fl at *;generalize L[i]=o at *;have aK:=qcH aI;obtain⟨⟨G,o2⟩,d,body⟩:=o;obtain⟨aY,aZ,ba,-⟩:=aI;simp only at aY aZ ba e0 ag ah
   have aw:Hid (wr.rangeAt g (i* 4) [ι G,ι o2,ι d,δ aa ab ac]):=κ (λk v aj=>by
    rw[O.o.cells _ _ Y];have bd:k=0∨k=1∨k=2∨k=3:=by
     have:=(ϣ.1 aj).1;simp at this;omega
    rcases bd with rfl | rfl | rfl | rfl<;>(simp at aj;subst aj)
    ·exact e0
    ·exact ag
    ·exact ah
    ·exact aE)
   obtain⟨r,ak⟩:=ν (qcs ⟨(G,o2),d,body⟩);have aS:Hid (Lib.join ([G,o2,d].map Lib.itoa) [58]=r):=κ ak;rw[ak] at aB aK;have aR:=κ aK;clear e0 ag ah aE ak
   go_upto_region 5 with (refine wpList_load_mid rfl 259 (.tmp 14) rfl g (i* 4) rfl [ι G,ι o2,ι d,δ aa ab ac] _ aw.o underlying259 rfl ξ ?_)
   obtain⟨W7,U⟩:=ν (wr.alloc (.cells #[ι G,ι o2,ι d,δ aa ab ac] 259));have ad:Hid (ql wr W7):=κ (by rw[<-U];exact ql.alloc _ _);have ae:Hid (W7.heap[wr.heap.size]? =ϊ (.cells #[ι G,ι o2,ι d,δ aa ab ac] 259 (0,0))):=κ (by rw[<-U];exact qj wr _);have aV:Hid (ql w1 W7):=κ (O.o.trans ad.o);have az:=κ (ay.o.on ad.o);rw[U];clear U ad ay O aw N ai;generalize wr.heap.size=pq at *;have bp:=β0 ae.o;have bq:=β1 ae.o;have br:=β2 ae.o;have ar:=κ (qj W7 (.cells #[ι G,ι o2,ι d] 3));have aD:Hid (ql w1 (W7.alloc (.cells #[ι G,ι o2,ι d] 3))):=κ (aV.o.trans X6);have aT:Hid (Calls prog 78 #[.string ⟨#[58]⟩,δ (ϊ ⟨W7.heap.size,0,ϋ⟩) 3 3] (W7.alloc (.cells #[ι G,ι o2,ι d] 3)) λe w'=>e= .returned (.string ⟨r.toArray⟩)/\ql (W7.alloc (.cells #[ι G,ι o2,ι d] 3)) w'):=κ (RE ⟨#[58]⟩ [G,o2,d] W7.heap.size 3 _ (λi y am=>qa ar.o i (by show ((([G,o2,d]:List Int).map (Value.int .i64)).toArray)[i]? =_;rw[Δ,B6,am];rfl)) (qn ar.o) η η (λn aJ=>by simp at aJ;rcases aJ with rfl | rfl | rfl<;>omega) (aU.o _ (aC.o.trans aD.o)) (r:=r) aS.o (by have:=aR.o;omega));have aQ:Hid (∀b,(δ aq ap af).ownBlock=ϊ b->w1.heap.size<=b):=κ (λb h=>az.o.ge h)
   go_wp2_with (first | (go_at_call 78;(go_call aT.o as e w8 ⟨rfl,ao⟩;have H:=κ (aD.o.trans ao);have aX:=κ ((az.o.on (X6.trans ao)).on (ql.alloc w8 (.cells #[.string ⟨r.toArray⟩] 9)));clear ao)) | (at_builtin;(refine jN (R:=RTx) (D:=λ_=>False) _ rfl (.tmp 16) (.tmp 27) 27 rfl w1.heap.size 9 bl (.string ByteArray.empty) 1 16 underlying27 hi bg bh bi rfl ζ _ fl rfl aX.o w8.heap.size [.string ⟨r.toArray⟩] ⟨r.toArray⟩ rfl rfl (zS η) X8 (λw' _=>rfl) (λb h=>h.elim) ζ τ (H.o.al _).size ?_;intro v' w10 J Y I;have bm:Hid (ql w1 w10):=κ (Below.grown (H.o.al _) Y (H.o.al _).size aQ.o);obtain⟨bx,bv,bo,rfl,bj,bk⟩:=J.shape;have aW:=κ J;clear J Y I bj bk)))
   go_roundw
   case rel=>exact⟨i+1,τ,by go_num,⟨_,_,_,rfl⟩,by rw[aB.o];exact aW.o,bm.o⟩
   case measure=>simp[intOf];omega
  ·obtain rfl:i=L.length:=by omega
   have bc: ¬(L.length:Int)<(L.length:Int):=by omega
   rw[Ϩ] at N;have av:Hid ((qcb ((L.map λo=>(⟨(qcs o).toArray⟩:ByteArray)).map (·.data.toList)))=qcc L):=κ (by unfold qcc;rw[G4];congr 1);have bf:(qcc L).length<=4+L.length* 43:=by
    have:=qb5 (L.map qcs) 42 (λy am=>by
     obtain⟨o,J,rfl⟩:=ο.1 am
     exact qcH (au.o o J))
    rw[ϱ] at this;exact this
   have ax:=κ (qdh N (by rw[ϱ];omega) (by rw[av.o];omega));rw[av.o] at ax;clear bf N ai
   go_wp2_with ((go_at_call 128;(go_call ax.o as e w9 ⟨rfl,aN⟩;have H:=κ aN;clear aN)))
   go_ret;exact⟨rfl,aC.o.trans (O.o.trans H.o)⟩
def qeW {d:World} (N:s.reqs.length<=170000) (J: ∀q∈s.reqs,RqB q) (O:Lib.TabIs prog d N9 .u64 Lib.pow10Tab) (h:Pl d pb (ϊ s) F w):
  Calls prog 29 #[γ pb,.string ⟨#[97,115,107,115]⟩,()] w λe w'=>e=O0 (.told (qcc s.reqs))/\Pl d pb (ϊ s) F w'/\PS pb F w w':=by
 obtain⟨R,ab,I⟩:=h.room;have aa:w.cell? ⟨pb,0,ϋ⟩=ϊ (π (ϊ ⟨R,0,ϋ⟩)):=qa I 0 rfl;have Y:=κ (qeA N J O h);have G:=κ h;refine BI aa (by intro x ac;rw[ByteArray.toList_eq];revert x ac;decide) ?_;clear h ab I O N J;generalize qcc s.reqs=r at *
 go_enter func48,ntmps48
 go_wp2_with ((go_at_call 81;(go_call Y.o as e w5 ⟨rfl,U⟩;have H:=κ U;clear U)))
 go_ret;exact⟨_,rfl,rfl,G.o.on H.o,G.o.stay H.o⟩
def Pl.some_blk {G:World} (h:Pl G pb o F w): ∃q,w.heap[pb]? =ϊ (.cells #[.pointer q] 46 (0,0)):=by
 cases o with
 | none=>exact⟨ϋ,h.2.2.2⟩
 | some s=>
  obtain⟨R,_,d⟩:=h.room;exact⟨_,d⟩
def Fv (o:Option RmS) (c:CfR):Option RmS×Int:=if xY c=ό then (ϊ (ud c),0) else (o,1)
def qdW {ac:World} {g cap:Nat} (c:CfR) (h:Pl ac pb o F w) (an:g∈F) (J: ∀i y,([c.room,c.hold,c.wait,c.space,c.retry,c.most]:List Int)[i]? =ϊ y->w.cell? ⟨g,i,ϋ⟩=ϊ (ι y)):
  Calls prog 37 #[γ pb,δ (ϊ ⟨g,0,ϋ⟩) 6 cap] w λe w'=>e= .returned (ι (Fv o c).2)/\Pl ac pb (Fv o c).1 F w'/\PS pb F w w':=by
 obtain⟨q,af⟩:=h.some_blk;have H:=κ h;have am:=κ af;have N:=h.lt g an;have ag: ∀x:qt w,x.w'.cell? ⟨g,0,ϋ⟩=ϊ (ι c.room):=λx=>by rw[x.h.cells _ _ N];exact J 0 _ rfl
 have ah: ∀x:qt w,x.w'.cell? ⟨g,1,ϋ⟩=ϊ (ι c.hold):=λx=>by rw[x.h.cells _ _ N];exact J 1 _ rfl
 have ai: ∀x:qt w,x.w'.cell? ⟨g,2,ϋ⟩=ϊ (ι c.wait):=λx=>by rw[x.h.cells _ _ N];exact J 2 _ rfl
 have aj: ∀x:qt w,x.w'.cell? ⟨g,3,ϋ⟩=ϊ (ι c.space):=λx=>by rw[x.h.cells _ _ N];exact J 3 _ rfl
 have ak: ∀x:qt w,x.w'.cell? ⟨g,4,ϋ⟩=ϊ (ι c.retry):=λx=>by rw[x.h.cells _ _ N];exact J 4 _ rfl
 have al: ∀x:qt w,x.w'.cell? ⟨g,5,ϋ⟩=ϊ (ι c.most):=λx=>by rw[x.h.cells _ _ N];exact J 5 _ rfl
 clear h af J;cases hcf:xY c with
 | true=>
  have Y:Hid (Fv o c=(ϊ (ud c),0)):=κ (ϓ hcf);have aa:=κ (JN c hcf);clear hcf;rw[Y.o];simp only
  go_enter func37,ntmps37
  go_upto_region 1 with fail
  refine Qn w 26 26 [20] ?_
  refine qaC ?_
  (refine Ql ?_;intro K I)
  go_call aa.o _ as e w5 ⟨R,rfl,ae,O⟩;have G:Hid (ql w w5):=κ (((ql.refl w).dr 1).trans O);refine⟨_,rfl,qk G.o,I _ _ ?_⟩;clear I K
  iterate 5 (refine qE rfl rfl (qk G.o) ?_;intro K I;go_big_quiet_op;go_big_quiet_on)
  refine qA ?_;have ad:Hid (RmR ac w5 R (ud c) F):=κ ((ae.based (Fn:=F) (H.o.2.2.1.dr 1) (λb d=>H.o.2.1 b d)).sub (λb d=>Ω _ d));have U:=κ (qq G.o am.o);have aq:=β0 U.o;have ap:=yw U.o 0;clear ae O;go_wp2;go_ret;have a:jt (λb=>b∈[pb]) w5 (w5.setCell ⟨pb,0,ϋ⟩ (γ R)):=(jt.refl _ _).set η _;have ab:=H.o.1;refine⟨rfl,⟨ab,λb d=>⟨(H.o.2.1 b d).1,ϗ (H.o.2.1 b d).2 (ϙ G.o.size a.size)⟩,a.to_more ad.o.more (λb d=>by simp at d;subst d;exact(H.o.2.1 _ ab).1),R,ad.o.mut (a.mono λb d=>by simp at d;subst d;exact ab), ?_⟩,ϙ G.o.size a.size,λb d ao=> ?_⟩
  ·have e:=U.o;simp[World.setCell,F8,e]
  ·rw[a.block b (by have:=H.o.lt b d;have:=G.o.size;omega) (λe=>by simp at e;exact ao e),G.o.block b (H.o.lt b d)]
 | false=>
  have Y:Hid (Fv o c=(o,1)):=κ (Ϗ (by rw[hcf];decide));have aa:=κ (YL c hcf);clear hcf;rw[Y.o];simp only
  go_enter func37,ntmps37
  go_upto_region 1 with fail
  refine Qn w 26 26 [20] ?_
  refine qaC ?_
  (refine Ql ?_;intro K I)
  go_call aa.o _ as e w5 ⟨rfl,O⟩;have G:Hid (ql w w5):=κ (((ql.refl w).dr 1).trans O);refine⟨_,rfl,qk G.o,I _ _ ?_⟩;clear I K
  iterate 5 (refine qE rfl rfl (qk G.o) ?_;intro K I;go_big_quiet_op;go_big_quiet_on)
  refine qA ?_;clear ag ah ai aj ak al;go_wp2;go_ret;exact⟨rfl,H.o.on G.o,H.o.stay G.o⟩
def qeS {O:World} {g cap:Nat} (c:CfR) (h:Pl O pb o F w) (U:g∈F) (N: ∀i y,([c.room,c.hold,c.wait,c.space,c.retry,c.most]:List Int)[i]? =ϊ y->w.cell? ⟨g,i,ϋ⟩=ϊ (ι y)):
  Calls prog 29 #[γ pb,.string ⟨#[114,111,111,109]⟩,δ (ϊ ⟨g,0,ϋ⟩) 6 cap] w λe w'=>e=O0 (kx (Fv o c).2)/\Pl O pb (Fv o c).1 F w'/\PS pb F w w':=by
 obtain⟨q,J⟩:=h.some_blk;have aa:w.cell? ⟨pb,0,ϋ⟩=ϊ (.pointer q):=qa J 0 rfl;have G:=κ (qdW (cap:=cap) c h U N);clear h J N;generalize Fv o c=oa at *;obtain⟨ac,a⟩:=oa;simp only at G
 go_enter func29,ntmps29
 go_upto_region 33 with ((go_at_call 37;(go_call G.o as e w5 ⟨rfl,I,t5⟩;have d:=κ I;have H:=κ t5;clear I t5)))
 by_cases ha:a=0
 ·subst ha;go_wp2;go_ret;exact⟨rfl,d.o,H.o⟩
 ·have ab:(a != 0)=ό:=by simp[ha]
  have Y:Hid (kx a= .err a):=κ (Ϗ ha);clear ha;go_wp2;exact⟨rfl,by rw[Y.o];rfl,d.o,H.o⟩
def qef (s:RmS) (o:Og) (d:o∈orgs) (H:0<=s.clock/\s.clock<=t) (I:t<=1000000) (h: ∀q∈s.reqs,RqB q): ∀q∈(s.tick1 o).reqs,RqB q:=by
 unfold RmS.tick1;cases qh s.strs o with
 | none=>exact h
 | some st=>
  simp only;split
  ·intro q G;unfold RmS.request at G;simp only at G;rcases Ϫ.1 G with e | e
   ·exact h q e
   ·rw[A8] at e;subst e;refine⟨?_, ?_,⟨H.1,by simp only;omega⟩,(qcv _).2⟩
    ·simp only;simp only[orgs,Ϟ,Ϻ,or_false] at d;rcases d with rfl | rfl | rfl | rfl | rfl | rfl | rfl | rfl | rfl<;>decide
    ·simp only;simp only[orgs,Ϟ,Ϻ,or_false] at d;rcases d with rfl | rfl | rfl | rfl | rfl | rfl | rfl | rfl | rfl<;>decide
  ·exact h
def qde (d:t<=1000000): ∀(L:List Og) (s:RmS),(∀o∈L,o∈orgs)->0<=s.clock/\s.clock<=t->(∀q∈s.reqs,RqB q)-> ∀q∈(L.foldl RmS.tick1 s).reqs,RqB q
 | [],s,_,_,h=>h
 | o::L,s,ho,hc,h=>by
  rw[A6];exact qde d L _ (λx G=>ho x (ϛ _ G)) (by rw[(Ay s o).clock];exact hc) (qef s o (ho o η) hc d h)
structure ScI (n t:Nat) (s:RmS):Prop where
 ok:qV n s
 sq:EO s
 rq: ∀q∈s.reqs,RqB q
 few:s.reqs.length<=9* t
 clock:s.clock<=t
 ret:s.ret.length<=n
 nd:(s.tab.u.map Prod.fst).Nodup
def ScI.le {d t':Nat} (h:ScI n t s) (G:n<=d) (H:t<=t'):ScI d t' s:=
 ⟨h.ok.le G,h.sq,h.rq,by have:=h.few;omega,by have:=h.clock;omega,by have:=h.ret;omega,h.nd⟩
def ScI.act (h:ScI n t s) (a:A22) (d: ¬a.act=2) (G:Byt a.b) (H:a.b.length<=400) (I: ∀v∈[a.s0,a.s1,a.s2],0<=v/\v<=4294967295):ScI (n+1) t (doR s a).1:=by
 have k:=qfo s a d;refine⟨KZ h.ok h.nd a G H I,h.sq.act h.ok a, ?_, ?_, ?_, ?_,k.nd h.nd⟩
 ·rw[k.reqs];exact h.rq
 ·rw[k.reqs];exact h.few
 ·rw[k.clock];exact h.clock
 ·have:=k.ret;have:=h.ret;omega
def qe2:A22:=⟨2,0,0,0,[],(0,0),ύ,0,0,0,0,0,0⟩
def ScI.tick (h:ScI n t s) (O:t<1000000):ScI (n+1) (t+1) s.tick.1:=by
 have q:=h.sq.act h.ok qe2;have e:(doR s qe2).1=s.tick.1:=rfl;rw[e] at q;have d:=h.ok.tick;unfold RmS.tick at d q ⊢;split
 ·rename_i H;rw[ϓ H] at d q;exact(h.le (D0 n) (D0 t))
 ·rename_i H;rw[Ϗ H] at d q;have k:=ur s.origins {s with clock:=s.clock+1};have N:=h.clock;have J:=h.ok.num.clock.1;refine⟨d,q,qde (t:=t+1) τ s.origins {s with clock:=s.clock+1} (λo I=>(E8.1 I).1) ⟨by simp only;omega,by simp only;omega⟩ h.rq, ?_, ?_, ?_, ?_⟩
  ·have G:=k.reqs;have U:=uC s;have Y:=h.few;simp only at G ⊢;omega
  ·have G:=k.clock;simp only at G ⊢;rw[G];omega
  ·have:=h.ret;simp only;rw[(gJ s.origins {s with clock:=s.clock+1}).1];simp only;omega
  ·simp only;rw[k.tab];exact h.nd
def ScI.new {c:CfR} (d:xY c=ό):ScI 0 0 (ud c):=
 ⟨uQ d,EO.start c,(λq G=>by cases G),ϔ _,O4 _,ϔ _,N5⟩
def ScI.tickN (h:ScI n t s): ∀k,t+k<1000000->ScI (n+k) (t+k) (s.tickN k)
 | 0,_=>h
 | k+1,hk=>by
  rw[qb8 k s];exact(ScI.tickN h k τ).tick τ
def ScI.ticksE (h:ScI n t s) (k:Nat) (d:t+k<1000000):ScI (n+k) (t+k) (s.ticksE k).1:=by
 unfold RmS.ticksE;split
 ·exact h.le τ τ
 ·exact h.tickN k d
def qe3 (w:Og) (acc:Bool):A22:=⟨1,0,0,0,[],w,acc,0,0,0,0,0,0⟩
def ScI.pick (h:ScI n t s) (w:Og) (acc:Bool):ScI (n+1) t (s.pick w acc).1:=
 h.act (qe3 w acc) (show ¬(1:Int)=2 by decide) (show Byt [] from xh) (ϫ _) (by simp[qe3])
def ScI.picksC: ∀(L:List Og) {p:RmS×Nat} {n:Nat},ScI n t p.1->ScI (n+L.length) t (L.foldl Fu p).1
 | [],p,n,h=>h
 | x::L,p,n,h=>by
  have a:=ScI.picksC L (p:=Fu p x) (h.pick x ό);rw[Ϙ,show n+(L.length+1)=n+1+L.length by omega];exact a
def ScI.turnN {p:RmS×Nat} (h:ScI n t p.1): ∀k,ScI (n+20* k) t (Q5 p k).1
 | 0=>h
 | k+1=>by
  have a:=ScI.turnN h k;have d:=Wx (Q5 p k).1;exact(a.picksC (Q5 p k).1.workers).le τ (ϔ _)
def ScI.wid (h:ScI n t s) (I:n<=100000) (x:Int): ∀o∈(s.ln x).W,0<=o.1/\o.1<=1000000:=by
 intro o d;unfold RmS.ln at d;cases hl:qh s.lanes x with
 | none=>rw[hl] at d;cases d
 | some l=>
  rw[hl,ϰ] at d;obtain⟨⟨G,H⟩,_⟩:=h.sq.inn x l hl o.1 (by unfold EI;exact Ω _ (ο.2 ⟨o,d,rfl⟩));have:=h.ok.num.pks;exact⟨G,τ⟩
def qbM (nm:ByteArray):Nat:=cmdL.findIdx λp=>p.1==nm.data.toList
def qdM (i:Nat) (ns:List Int) (s:RmS):RmS×Res:=
 match i,ns with
 | 1,[n0,n1,n2,n3]=>((s.publish n0 n1 n2 n3).1,kx (s.publish n0 n1 n2 n3).2)
 | 2,[n0,n1,n2,n3]=>((s.join n0 n1 n2 n3).1,kx (s.join n0 n1 n2 n3).2)
 | 3,[n0,n1,n2]=>((s.subscribe n0 n1 n2).1,kx (s.subscribe n0 n1 n2).2)
 | 4,[n0,n1]=>((s.want n0 n1).1,kx (s.want n0 n1).2)
 | 5,[n0,n1,n2]=>((s.arrive (pkB (pkM n0 n1 n2 16 0))).1,kx (s.arrive (pkB (pkM n0 n1 n2 16 0))).2)
 | 6,[n0,n1,n2]=>((s.arrive (pkB (pkM n0 n1 n2 0 1))).1,kx (s.arrive (pkB (pkM n0 n1 n2 0 1))).2)
 | 7,[n0]=>((s.leave n0).1,kx (s.leave n0).2)
 | 8,[n0]=>((s.arrive (ug n0)).1,kx (s.arrive (ug n0)).2)
 | 9,[n0]=>((s.pick (2,n0) ό).1,.told (qbS (s.pick (2,n0) ό).2))
 | 10,[n0]=>((s.pick (3,n0) ό).1,.told (qbS (s.pick (3,n0) ό).2))
 | 11,[n0]=>((s.pick (4,n0) ό).1,.told (qbS (s.pick (4,n0) ό).2))
 | 12,[n0]=>((s.pick (4,n0) ύ).1,.told (qbS (s.pick (4,n0) ύ).2))
 | 13,[n0]=>(s,.told (Lib.join ((qb6 s n0).map Lib.itoa) [32]))
 | 14,[n0]=>(s,.told (qb0 (s.ln n0).W))
 | 15,[n0]=>((s.ticksE n0.toNat).1,kx (s.ticksE n0.toNat).2)
 | 16,[n0]=>((Q5 (s,0) n0.toNat).1,.told (Lib.itoa ((Q5 (s,0) n0.toNat).2:Int)))
 | 17,[]=>((s.arrive [0]).1,kx (s.arrive [0]).2)
 | 18,[]=>((s.pick (0,0) ό).1,.told (qbS (s.pick (0,0) ό).2))
 | 19,[]=>((s.pick (1,0) ό).1,.told (qbS (s.pick (1,0) ό).2))
 | 20,[]=>((s.shut).1,kx (s.shut).2)
 | 21,[]=>(s,.told (Lib.join ((qbK s).map Lib.itoa) [32]))
 | 22,[]=>(s,.told (qcc s.reqs))
 | 23,[]=>(s,.told (qbS s.ended))
 | _,_=>(s,.told [])
def qcy (ns:List Int):CfR:=⟨ns.getD 0 0,ns.getD 1 0,ns.getD 2 0,ns.getD 3 0,ns.getD 4 0,ns.getD 5 0⟩
def stS (o:Option RmS) (nm:ByteArray) (ns:List Int):Option RmS×Res:=
 if qbM nm=0 then ((Fv o (qcy ns)).1,kx (Fv o (qcy ns)).2) else match o with
  | none=>(ϋ,.err 5)
  | some s=>(ϊ (qdM (qbM nm) ns s).1,(qdM (qbM nm) ns s).2)
def kc (o:Option RmS):List ByteArray->Option RmS×List UInt8
 | []=>(o,[])
 | nm::args=>match BC nm with
  | none=>(o,qbT 2)
  | some fm=>match xb fm.data.toList args with
   | none=>(o,qbT 2)
   | some ns=>((stS o nm ns).1,qd2 (stS o nm ns).2)
def wtL:List ByteArray->Nat
 | []=>0
 | nm::args=>if qbM nm=21∨qbM nm=23 then 0 else (nm.size+1)+(args.map λx=>x.size+1).sum
def qcj (h: ¬(qbM d=21∨qbM d=23)):wtL (d::args)=(d.size+1)+(args.map λx=>x.size+1).sum:=Ϗ h
def qbJ {f:List UInt8} (h:xb (c::f) ws=ϊ ns): ∃x ws' n ns',ws=x::ws'/\ns=n::ns'/\NH x (vv c) n/\xb f ws'=ϊ ns':=by
 cases ws with
 | nil=>cases h
 | cons x ws=>
  unfold xb at h;split at h
  ·cases h
  ·rename_i n d;cases hf:xb f ws with
   | none=>rw[hf] at h;cases h
   | some ns'=>
    rw[hf] at h;injection h with h
    exact⟨x,ws,n,ns',rfl,h.symm,qdA d,hf⟩
def EN (h:xb [] ws=ϊ ns):ws=[]/\ns=[]:=by
 cases ws with
 | nil=>injection h with h;exact⟨rfl,h.symm⟩
 | cons x ws=>cases h
def NH.rng {x:ByteArray} {m n:Int} (h:NH x m n):(0<=n/\n<=m)/\1<=x.size/\(x.size=1->n<=9):=by
 have k:=RR x.data.toList h.dig x.data.toList.length (ϔ _);rw[Ϩ,h.val] at k;have e:x.size=x.data.toList.length:=rfl;refine⟨⟨k.1,h.le⟩,by rw[e];exact h.pos,λd=> ?_⟩;rw[<-e,d] at k;have:=k.2;omega
def WdR (x:ByteArray) (m n:Int):Prop:=(0<=n/\n<=m)/\1<=x.size/\(x.size=1->n<=9)
inductive R6:Nat->ByteArray->List ByteArray->List Int->Prop where
 | c0 (x0 x1 x2 x3 x4 x5:ByteArray) (n0 n1 n2 n3 n4 n5:Int):WdR x0 999999999 n0->WdR x1 999999999 n1->WdR x2 999999999 n2->WdR x3 999999999 n3->WdR x4 999999999 n4->WdR x5 999999999 n5->R6 0 ⟨#[114,111,111,109]⟩ [x0,x1,x2,x3,x4,x5] [n0,n1,n2,n3,n4,n5]
 | c1 (x0 x1 x2 x3:ByteArray) (n0 n1 n2 n3:Int):WdR x0 999999999 n0->WdR x1 999999999 n1->WdR x2 999999999 n2->WdR x3 999999999 n3->R6 1 ⟨#[112,117,98,108,105,115,104]⟩ [x0,x1,x2,x3] [n0,n1,n2,n3]
 | c2 (x0 x1 x2 x3:ByteArray) (n0 n1 n2 n3:Int):WdR x0 999999999 n0->WdR x1 999999999 n1->WdR x2 65535 n2->WdR x3 999999999 n3->R6 2 ⟨#[106,111,105,110]⟩ [x0,x1,x2,x3] [n0,n1,n2,n3]
 | c3 (x0 x1 x2:ByteArray) (n0 n1 n2:Int):WdR x0 999999999 n0->WdR x1 999999999 n1->WdR x2 999999999 n2->R6 3 ⟨#[116,97,107,101]⟩ [x0,x1,x2] [n0,n1,n2]
 | c4 (x0 x1:ByteArray) (n0 n1:Int):WdR x0 999999999 n0->WdR x1 999999999 n1->R6 4 ⟨#[119,97,110,116]⟩ [x0,x1] [n0,n1]
 | c5 (x0 x1 x2:ByteArray) (n0 n1 n2:Int):WdR x0 999999999 n0->WdR x1 65535 n1->WdR x2 999999999 n2->R6 5 ⟨#[107,101,121]⟩ [x0,x1,x2] [n0,n1,n2]
 | c6 (x0 x1 x2:ByteArray) (n0 n1 n2:Int):WdR x0 999999999 n0->WdR x1 65535 n1->WdR x2 999999999 n2->R6 6 ⟨#[100,101,108,116,97]⟩ [x0,x1,x2] [n0,n1,n2]
 | c7 (x0:ByteArray) (n0:Int):WdR x0 999999999 n0->R6 7 ⟨#[108,101,97,118,101]⟩ [x0] [n0]
 | c8 (x0:ByteArray) (n0:Int):WdR x0 999999999 n0->R6 8 ⟨#[112,108,105]⟩ [x0] [n0]
 | c9 (x0:ByteArray) (n0:Int):WdR x0 999999999 n0->R6 9 ⟨#[99,104,111,111,115,101]⟩ [x0] [n0]
 | c10 (x0:ByteArray) (n0:Int):WdR x0 999999999 n0->R6 10 ⟨#[114,101,119,114,105,116,101]⟩ [x0] [n0]
 | c11 (x0:ByteArray) (n0:Int):WdR x0 999999999 n0->R6 11 ⟨#[119,114,105,116,101]⟩ [x0] [n0]
 | c12 (x0:ByteArray) (n0:Int):WdR x0 999999999 n0->R6 12 ⟨#[114,101,102,117,115,101]⟩ [x0] [n0]
 | c13 (x0:ByteArray) (n0:Int):WdR x0 999999999 n0->R6 13 ⟨#[102,97,116,101,115]⟩ [x0] [n0]
 | c14 (x0:ByteArray) (n0:Int):WdR x0 999999999 n0->R6 14 ⟨#[119,114,111,116,101]⟩ [x0] [n0]
 | c15 (x0:ByteArray) (n0:Int):WdR x0 20 n0->R6 15 ⟨#[116,105,99,107]⟩ [x0] [n0]
 | c16 (x0:ByteArray) (n0:Int):WdR x0 20 n0->R6 16 ⟨#[116,117,114,110]⟩ [x0] [n0]
 | c17:R6 17 ⟨#[106,117,110,107]⟩ [] []
 | c18:R6 18 ⟨#[114,101,97,100]⟩ [] []
 | c19:R6 19 ⟨#[111,114,100,101,114]⟩ [] []
 | c20:R6 20 ⟨#[115,104,117,116,100,111,119,110]⟩ [] []
 | c21:R6 21 ⟨#[99,111,117,110,116,115]⟩ [] []
 | c22:R6 22 ⟨#[97,115,107,115]⟩ [] []
 | c23:R6 23 ⟨#[101,110,100,101,100]⟩ [] []
def qb3 {d:UInt8} (h:xb [d] ws=ϊ ns): ∃x0 n0,ws=[x0]/\ns=[n0]/\WdR x0 (vv d) n0:=by
 obtain⟨x,ws,n,ns,rfl,rfl,G,h⟩:=qbJ h;obtain⟨rfl,rfl⟩:=EN h;exact⟨x,n,rfl,rfl,G.rng⟩
def qe1 {H:UInt8} (h:xb [H,c1] ws=ϊ ns): ∃d G n0 n1,ws=[d,G]/\ns=[n0,n1]/\WdR d (vv H) n0/\WdR G (vv c1) n1:=by
 obtain⟨d,ws,n0,ns,rfl,rfl,I,h⟩:=qbJ h;obtain⟨G,n1,rfl,rfl,r⟩:=qb3 h;exact⟨_,_,_,_,rfl,rfl,I.rng,r⟩
def qdy {I c2:UInt8} (h:xb [I,c1,c2] ws=ϊ ns): ∃d G H n0 n1 n2,ws=[d,G,H]/\ns=[n0,n1,n2]/\WdR d (vv I) n0/\WdR G (vv c1) n1/\WdR H (vv c2) n2:=by
 obtain⟨d,ws,n0,ns,rfl,rfl,J,h⟩:=qbJ h;obtain⟨G,H,n1,n2,rfl,rfl,r⟩:=qe1 h;exact⟨_,_,_,_,_,_,rfl,rfl,J.rng,r⟩
def qd6 {J c2 c3:UInt8} (h:xb [J,c1,c2,c3] ws=ϊ ns): ∃d G H I n0 n1 n2 n3,ws=[d,G,H,I]/\ns=[n0,n1,n2,n3]/\WdR d (vv J) n0/\WdR G (vv c1) n1/\WdR H (vv c2) n2/\WdR I (vv c3) n3:=by
 obtain⟨d,ws,n0,ns,rfl,rfl,N,h⟩:=qbJ h;obtain⟨G,H,I,n1,n2,n3,rfl,rfl,r⟩:=qdy h;exact⟨_,_,_,_,_,_,_,_,rfl,rfl,N.rng,r⟩
def qfI {U c2 c3 c4 c5:UInt8} (h:xb [U,c1,c2,c3,c4,c5] ws=ϊ ns): ∃G H I J N O n0 n1 n2 n3 d n5,ws=[G,H,I,J,N,O]/\ns=[n0,n1,n2,n3,d,n5]/\WdR G (vv U) n0/\WdR H (vv c1) n1/\WdR I (vv c2) n2/\WdR J (vv c3) n3/\WdR N (vv c4) d/\WdR O (vv c5) n5:=by
 obtain⟨G,ws,n0,ns,rfl,rfl,Y,h⟩:=qbJ h;obtain⟨H,ws,n1,ns,rfl,rfl,aa,h⟩:=qbJ h;obtain⟨I,J,N,O,n2,n3,d,n5,rfl,rfl,r⟩:=qd6 h;exact⟨_,_,_,_,_,_,_,_,_,_,_,_,rfl,rfl,Y.rng,aa.rng,r⟩
def qci {aa:ByteArray} (hF:BC aa=ϊ fm) (H:xb fm.data.toList args=ϊ ns):R6 (qbM aa) aa args ns:=by
 rcases qc5 aa with rfl | rfl | rfl | rfl | rfl | rfl | rfl | rfl | rfl | rfl | rfl | rfl | rfl | rfl | rfl | rfl | rfl | rfl | rfl | rfl | rfl | rfl | rfl | rfl | hx
 ·cases hF;obtain⟨G,J,O,Y,af,ag,n0,n1,n2,n3,ac,n5,rfl,rfl,d,I,N,U,ad,ae⟩:=qfI H;exact .c0 G J O Y af ag n0 n1 n2 n3 ac n5 d I N U ad ae
 ·cases hF;obtain⟨G,J,O,Y,n0,n1,n2,n3,rfl,rfl,d,I,N,U⟩:=qd6 H;exact .c1 G J O Y n0 n1 n2 n3 d I N U
 ·cases hF;obtain⟨G,J,O,Y,n0,n1,n2,n3,rfl,rfl,d,I,N,U⟩:=qd6 H;exact .c2 G J O Y n0 n1 n2 n3 d I N U
 ·cases hF;obtain⟨G,J,O,n0,n1,n2,rfl,rfl,d,I,N⟩:=qdy H;exact .c3 G J O n0 n1 n2 d I N
 ·cases hF;obtain⟨G,J,n0,n1,rfl,rfl,d,I⟩:=qe1 H;exact .c4 G J n0 n1 d I
 ·cases hF;obtain⟨G,J,O,n0,n1,n2,rfl,rfl,d,I,N⟩:=qdy H;exact .c5 G J O n0 n1 n2 d I N
 ·cases hF;obtain⟨G,J,O,n0,n1,n2,rfl,rfl,d,I,N⟩:=qdy H;exact .c6 G J O n0 n1 n2 d I N
 ·cases hF;obtain⟨G,n0,rfl,rfl,d⟩:=qb3 H;exact .c7 G n0 d
 ·cases hF;obtain⟨G,n0,rfl,rfl,d⟩:=qb3 H;exact .c8 G n0 d
 ·cases hF;obtain⟨G,n0,rfl,rfl,d⟩:=qb3 H;exact .c9 G n0 d
 ·cases hF;obtain⟨G,n0,rfl,rfl,d⟩:=qb3 H;exact .c10 G n0 d
 ·cases hF;obtain⟨G,n0,rfl,rfl,d⟩:=qb3 H;exact .c11 G n0 d
 ·cases hF;obtain⟨G,n0,rfl,rfl,d⟩:=qb3 H;exact .c12 G n0 d
 ·cases hF;obtain⟨G,n0,rfl,rfl,d⟩:=qb3 H;exact .c13 G n0 d
 ·cases hF;obtain⟨G,n0,rfl,rfl,d⟩:=qb3 H;exact .c14 G n0 d
 ·cases hF;obtain⟨G,n0,rfl,rfl,d⟩:=qb3 H;exact .c15 G n0 d
 ·cases hF;obtain⟨G,n0,rfl,rfl,d⟩:=qb3 H;exact .c16 G n0 d
 ·cases hF;obtain⟨rfl,rfl⟩:=EN H;exact .c17
 ·cases hF;obtain⟨rfl,rfl⟩:=EN H;exact .c18
 ·cases hF;obtain⟨rfl,rfl⟩:=EN H;exact .c19
 ·cases hF;obtain⟨rfl,rfl⟩:=EN H;exact .c20
 ·cases hF;obtain⟨rfl,rfl⟩:=EN H;exact .c21
 ·cases hF;obtain⟨rfl,rfl⟩:=EN H;exact .c22
 ·cases hF;obtain⟨rfl,rfl⟩:=EN H;exact .c23
 ·unfold BC at hF
  rw[P5.2 (λp ab=>by
   have:=hx p ab;rw[ByteArray.toList_eq] at this;intro e;rw[P6] at e;rw[e,beq_self_eq_true] at this
   cases this)] at hF
  cases hF
def qdq (h:R6 i d args ns):i=21∨i=23∨5<=wtL (d::args):=by
 have e: ∀l:Array UInt8,(ByteArray.mk l).size=l.size:=λ_=>rfl
 cases h<;>first | exact ϑ rfl | exact ϕ (ϑ rfl) | exact ϕ (ϕ (by rw[qcj ζ];(try unfold WdR at *);simp only[e,G7,Ϙ,Ϣ,Ϛ,C6,G3,List.sum_nil]<;>omega))
def qeE:Res->Prop
 | .told l=>l.length<=8000000
 | .err k=>0<=k/\k<=1000
def FC {a:Int} (h:0<=a/\a<=1000):qeE (kx a):=by
 unfold kx;split
 ·exact ϫ _
 ·exact h
def qdk (p a b c:Int):0<=(s.publish p a b c).2/\(s.publish p a b c).2<=1000:=by
 unfold RmS.publish vA
 (repeat' split)<;>simp
def qen (x a b c:Int):0<=(s.join x a b c).2/\(s.join x a b c).2<=1000:=by
 unfold RmS.join yI
 (repeat' split)<;>simp
def qcR (l:LnS) (k:Int):0<=(jO l k).2/\(jO l k).2<=1000:=by
 unfold jO
 (repeat' split)<;>simp
def qeg (x p k:Int):0<=(s.subscribe x p k).2/\(s.subscribe x p k).2<=1000:=by
 unfold RmS.subscribe vL
 (repeat' split)<;>first | exact qcR _ _ | simp
def qec (x k:Int):0<=(s.want x k).2/\(s.want x k).2<=1000:=by
 unfold RmS.want
 (repeat' split)<;>first | exact qcR _ _ | simp
def qdV (x:Int):0<=(s.leave x).2/\(s.leave x).2<=1000:=by
 unfold RmS.leave zW
 (repeat' split)<;>simp
def qb1 (b:List Int):0<=(s.arrive b).2/\(s.arrive b).2<=1000:=by
 unfold RmS.arrive
 (repeat' split)<;>simp
def qeh:0<=s.shut.2/\s.shut.2<=1000:=by
 unfold RmS.shut
 (repeat' split)<;>simp
def qdP (k:Nat):0<=(s.ticksE k).2/\(s.ticksE k).2<=1000:=by
 unfold RmS.ticksE
 (repeat' split)<;>simp
def qbP (b:Bool):(qbS b).length<=8000000:=by cases b<;>decide
def qc2 (ns:List Int) (d: ∀n∈ns,0<=n/\n<=1000000000000) (G:ns.length<=9):(Lib.join (ns.map Lib.itoa) [32]).length<=8000000:=by
 have:=qbO ns d [32];have e:([32]:List UInt8).length=1:=rfl;rw[e] at this;omega
def Pl.wbyt {O:World} (h:Pl O pb (ϊ s) F w) (x:Int): ∀o∈(s.ln x).W,Byt o.2:=by
 intro o d;unfold RmS.ln at d;cases hl:qh s.lanes x with
 | none=>rw[hl] at d;cases d
 | some l=>
  rw[hl,ϰ] at d;obtain⟨R,H,_⟩:=h.room;obtain⟨k,_,T,vp,ak,h⟩:=H;obtain⟨p,ah,ai,vo,_,I⟩:=h.laneAt hl;obtain⟨j,J,e⟩:=List.getElem_of_mem d;obtain⟨aj,U,Y,-,N,-⟩:=I.o.sl ζ;obtain⟨aa,off,c5,ab,ac,ad,ae,v5,af,ag,G,-⟩:=N j J;rw[<-e];exact G
def qed (h:qV n s) {k:Nat} (G:k<=20):(Lib.itoa ((Q5 (s,0) k).2:Int)).length<=8000000:=by
 have d:=(qce (p:=(s,0)) h k).2;simp only at d;have:=qbR ((Q5 (s,0) k).2:Int) ⟨τ,τ⟩;omega
def qdO (h:ScI n t s) (I:n<=100000) (H: ∀x,∀o∈(s.ln x).W,Byt o.2) (x:Int):(qb0 (s.ln x).W).length<=8000000:=by
 have G: ∀o∈(s.ln x).W,(TZ o).length<=42:=λo d=>qb7 (h.wid I x o d) (H x o d)
 have k:=qb5 ((s.ln x).W.map TZ) 42 (λy J=>by obtain⟨o,d,rfl⟩:=ο.1 J;exact G o d);rw[ϱ] at k;have N:(s.ln x).W.length<=n:=by
  unfold RmS.ln;cases G:qh s.lanes x with
  | none=>exact ϫ _
  | some l=>exact h.ok.num.wr x l G
 unfold qb0;omega
def qeB (h:ScI n t s) (H:t<=18000):(qcc s.reqs).length<=8000000:=by
 have k:=qb5 (s.reqs.map qcs) 42 (λy G=>by obtain⟨o,d,rfl⟩:=ο.1 G;exact qcH (h.rq o d));rw[ϱ] at k;have:=h.few;unfold qcc;omega
def qeX (h:ScI n t s) (I: ∀x,∀o∈(s.ln x).W,Byt o.2) {G:ByteArray} (H:R6 i G args ns) (N:i≠0) (U:n+50* wtL (G::args)<=100000) (aa:t+3* wtL (G::args)<=18000):
  ScI (n+50* wtL (G::args)) (t+3* wtL (G::args)) (qdM i ns s).1/\qeE (qdM i ns s).2:=by
 have Y:=qdq H;cases H with
 | c0=>exact ϧ rfl N
 | c1 x0 x1 x2 x3 n0 n1 n2 n3 r0 r1 r2 r3=>
  unfold WdR at *;exact⟨(h.act ⟨3,0,n0,0,[],(0,0),ύ,0,0,0,n1,n2,n3⟩ (show ¬(3:Int)=2 by decide) xh (ϫ _) (by intro v d;simp only[Ϟ,Ϻ,or_false] at d;omega)).le τ τ,FC (qdk _ _ _ _)⟩
 | c2 x0 x1 x2 x3 n0 n1 n2 n3 r0 r1 r2 r3=>
  exact⟨(h.act ⟨4,n0,0,0,[],(0,0),ύ,n1,n3,n2,0,0,0⟩ (show ¬(4:Int)=2 by decide) xh (ϫ _) (by intro v d;simp only[Ϟ,Ϻ,or_false,or_self] at d;subst d;decide)).le τ τ,FC (qen _ _ _ _)⟩
 | c3 x0 x1 x2 n0 n1 n2 r0 r1 r2=>
  exact⟨(h.act ⟨5,n0,n1,n2,[],(0,0),ύ,0,0,0,0,0,0⟩ (show ¬(5:Int)=2 by decide) xh (ϫ _) (by intro v d;simp only[Ϟ,Ϻ,or_false,or_self] at d;subst d;decide)).le τ τ,FC (qeg _ _ _)⟩
 | c4 x0 x1 n0 n1 r0 r1=>
  exact⟨(h.act ⟨6,n0,0,n1,[],(0,0),ύ,0,0,0,0,0,0⟩ (show ¬(6:Int)=2 by decide) xh (ϫ _) (by intro v d;simp only[Ϟ,Ϻ,or_false,or_self] at d;subst d;decide)).le τ τ,FC (qec _ _)⟩
 | c5 x0 x1 x2 n0 n1 n2 r0 r1 r2=>
  exact⟨(h.act ⟨0,0,0,0,pkB (pkM n0 n1 n2 16 0),(0,0),ύ,0,0,0,0,0,0⟩ (show ¬(0:Int)=2 by decide) (Iy (qcz r0.1 r1.1 r2.1 (by intro i;match i with | 0=>decide | 1=>decide | i+2=>simp))) (qcd _ _ _ _ _) (by intro v d;simp only[Ϟ,Ϻ,or_false,or_self] at d;subst d;decide)).le τ τ,FC (qb1 _)⟩
 | c6 x0 x1 x2 n0 n1 n2 r0 r1 r2=>
  exact⟨(h.act ⟨0,0,0,0,pkB (pkM n0 n1 n2 0 1),(0,0),ύ,0,0,0,0,0,0⟩ (show ¬(0:Int)=2 by decide) (Iy (qcz r0.1 r1.1 r2.1 (by intro i;match i with | 0=>decide | 1=>decide | i+2=>simp))) (qcd _ _ _ _ _) (by intro v d;simp only[Ϟ,Ϻ,or_false,or_self] at d;subst d;decide)).le τ τ,FC (qb1 _)⟩
 | c7 x0 n0 r0=>
  exact⟨(h.act ⟨7,n0,0,0,[],(0,0),ύ,0,0,0,0,0,0⟩ (show ¬(7:Int)=2 by decide) xh (ϫ _) (by intro v d;simp only[Ϟ,Ϻ,or_false,or_self] at d;subst d;decide)).le τ τ,FC (qdV _)⟩
 | c8 x0 n0 r0=>
  exact⟨(h.act ⟨0,0,0,0,ug n0,(0,0),ύ,0,0,0,0,0,0⟩ (show ¬(0:Int)=2 by decide) (qcv _).1 (qcv _).2 (by intro v d;simp only[Ϟ,Ϻ,or_false,or_self] at d;subst d;decide)).le τ τ,FC (qb1 _)⟩
 | c9 x0 n0 r0=>
  exact⟨(h.pick (2,n0) ό).le τ τ,qbP _⟩
 | c10 x0 n0 r0=>
  exact⟨(h.pick (3,n0) ό).le τ τ,qbP _⟩
 | c11 x0 n0 r0=>
  exact⟨(h.pick (4,n0) ό).le τ τ,qbP _⟩
 | c12 x0 n0 r0=>
  exact⟨(h.pick (4,n0) ύ).le τ τ,qbP _⟩
 | c13 x0 n0 r0=>
  exact⟨h.le τ τ,qc2 _ (qc3 h.ok τ n0) (ϔ 9)⟩
 | c14 x0 n0 r0=>
  exact⟨h.le τ τ,qdO h τ I n0⟩
 | c15 x0 n0 r0=>
  unfold WdR at r0;have O:wtL [⟨#[116,105,99,107]⟩,x0]=4+1+(x0.size+1):=qcj ζ;have J:(n0.toNat:Int)=n0:=by omega
  exact⟨(h.ticksE n0.toNat τ).le τ τ,FC (qdP _)⟩
 | c16 x0 n0 r0=>
  unfold WdR at r0;have O:wtL [⟨#[116,117,114,110]⟩,x0]=4+1+(x0.size+1):=qcj ζ;have J:(n0.toNat:Int)=n0:=by omega
  exact⟨(h.turnN (p:=(s,0)) n0.toNat).le τ τ,qed h.ok τ⟩
 | c17=>
  exact⟨(h.act ⟨0,0,0,0,[0],(0,0),ύ,0,0,0,0,0,0⟩ (show ¬(0:Int)=2 by decide) (show Byt [0] by intro i;match i with | 0=>decide | i+1=>simp) (show 1<=400 by decide) (by intro v d;simp only[Ϟ,Ϻ,or_false,or_self] at d;subst d;decide)).le τ τ,FC (qb1 _)⟩
 | c18=>
  exact⟨(h.pick (0,0) ό).le τ τ,qbP _⟩
 | c19=>
  exact⟨(h.pick (1,0) ό).le τ τ,qbP _⟩
 | c20=>
  exact⟨(h.act ⟨8,0,0,0,[],(0,0),ύ,0,0,0,0,0,0⟩ (show ¬(8:Int)=2 by decide) xh (ϫ _) (by intro v d;simp only[Ϟ,Ϻ,or_false,or_self] at d;subst d;decide)).le τ τ,FC (qeh)⟩
 | c21=>
  exact⟨h.le τ τ,qc2 _ (qb9 h.ok τ) (show 5<=9 by decide)⟩
 | c22=>
  exact⟨h.le τ τ,qeB h τ⟩
 | c23=>
  exact⟨h.le τ τ,qbP _⟩
def qdp.got {n0:Int} (h:qdp pb F w v (n0::ns)): ∃g cap,v= δ (ϊ ⟨g,0,ϋ⟩) (n0::ns).length cap/\g∈F/\ ∀i y,(n0::ns)[i]? =ϊ y->w.cell? ⟨g,i,ϋ⟩=ϊ (ι y):=by
 obtain⟨H,cap,rfl,h⟩:=h;rcases h with ⟨e,_⟩ | ⟨g,rfl,_,d,_,G⟩
 ·cases e
 ·exact⟨g,cap,rfl,d,G⟩
def qdp.no (h:qdp pb F w v []):v= δ ϋ 0 0:=by
 obtain⟨d,cap,rfl,h⟩:=h;rcases h with ⟨_,rfl,rfl⟩ | ⟨g,rfl,e,_⟩
 ·rfl
 ·exact ϧ rfl e
def qfr (h:qbM d=0):stS o d ns=((Fv o (qcy ns)).1,kx (Fv o (qcy ns)).2):=ϓ h
def AZ (h:qbM d=i) (G:i≠0):stS (ϊ s) d ns=(ϊ (qdM i ns s).1,(qdM i ns s).2):=by
 subst h;exact Ϗ G
def qfc {ab:World} {Y:ByteArray} (H:qbM Y=i) (G:R6 i Y args ns) (aa:Lib.TabIs prog ab N9 .u64 Lib.pow10Tab) (hi: ∀s,o=ϊ s->i≠0->ScI n t s/\n+50* wtL (Y::args)<=100000/\t+3* wtL (Y::args)<=18000) (ac:i=0∨ ∃s,o=ϊ s) (h:Pl ab pb o F w) (J:qdp pb F w v ns):
  Calls prog 29 #[γ pb,.string Y,v] w λe w'=>e=O0 (stS o Y ns).2/\Pl ab pb (stS o Y ns).1 F w'/\PS pb F w w':=by
 have N:i≠0-> ∃s,o=ϊ s:=ac.resolve_left;have ae:=qdq G;cases G with
 | c0 x0 x1 x2 x3 x4 x5 n0 n1 n2 n3 n4 n5 r0 r1 r2 r3 r4 r5=>
  obtain⟨g,cap,rfl,I,G⟩:=J.got;rw[qfr H];exact qeS ⟨n0,n1,n2,n3,n4,n5⟩ h I G
 | c1 x0 x1 x2 x3 n0 n1 n2 n3 r0 r1 r2 r3=>
  obtain⟨g,cap,rfl,I,G⟩:=J.got;obtain⟨s,rfl⟩:=N ζ;obtain⟨d,O,U⟩:=hi s rfl ζ;rw[AZ H ζ];exact qdx d.ok τ r0.1 r1.1 r2.1 r3.1 h I G
 | c2 x0 x1 x2 x3 n0 n1 n2 n3 r0 r1 r2 r3=>
  obtain⟨g,cap,rfl,I,G⟩:=J.got;obtain⟨s,rfl⟩:=N ζ;obtain⟨d,O,U⟩:=hi s rfl ζ;rw[AZ H ζ];exact qeV d.ok τ r0.1 r1.1 r2.1 r3.1 h I G
 | c3 x0 x1 x2 n0 n1 n2 r0 r1 r2=>
  obtain⟨g,cap,rfl,I,G⟩:=J.got;obtain⟨s,rfl⟩:=N ζ;obtain⟨d,O,U⟩:=hi s rfl ζ;rw[AZ H ζ];exact qeR d.ok τ r0.1 r1.1 r2.1 h I G
 | c4 x0 x1 n0 n1 r0 r1=>
  obtain⟨g,cap,rfl,I,G⟩:=J.got;obtain⟨s,rfl⟩:=N ζ;obtain⟨d,O,U⟩:=hi s rfl ζ;rw[AZ H ζ];exact qeO d.ok τ r0.1 r1.1 h I G
 | c5 x0 x1 x2 n0 n1 n2 r0 r1 r2=>
  obtain⟨g,cap,rfl,I,G⟩:=J.got;obtain⟨s,rfl⟩:=N ζ;obtain⟨d,O,U⟩:=hi s rfl ζ;rw[AZ H ζ];exact qfb d.ok τ r0.1 r1.1 r2.1 h I G
 | c6 x0 x1 x2 n0 n1 n2 r0 r1 r2=>
  obtain⟨g,cap,rfl,I,G⟩:=J.got;obtain⟨s,rfl⟩:=N ζ;obtain⟨d,O,U⟩:=hi s rfl ζ;rw[AZ H ζ];exact qex d.ok τ r0.1 r1.1 r2.1 h I G
 | c7 x0 n0 r0=>
  obtain⟨g,cap,rfl,I,G⟩:=J.got;obtain⟨s,rfl⟩:=N ζ;obtain⟨d,O,U⟩:=hi s rfl ζ;rw[AZ H ζ];exact qeu d.ok τ h G
 | c8 x0 n0 r0=>
  obtain⟨g,cap,rfl,I,G⟩:=J.got;obtain⟨s,rfl⟩:=N ζ;obtain⟨d,O,U⟩:=hi s rfl ζ;rw[AZ H ζ];exact qfa d.ok τ r0.1 h G
 | c9 x0 n0 r0=>
  obtain⟨g,cap,rfl,I,G⟩:=J.got;obtain⟨s,rfl⟩:=N ζ;obtain⟨d,O,U⟩:=hi s rfl ζ;rw[AZ H ζ];exact qdZ d.ok τ h G
 | c10 x0 n0 r0=>
  obtain⟨g,cap,rfl,I,G⟩:=J.got;obtain⟨s,rfl⟩:=N ζ;obtain⟨d,O,U⟩:=hi s rfl ζ;rw[AZ H ζ];exact qdw d.ok τ h G
 | c11 x0 n0 r0=>
  obtain⟨g,cap,rfl,I,G⟩:=J.got;obtain⟨s,rfl⟩:=N ζ;obtain⟨d,O,U⟩:=hi s rfl ζ;rw[AZ H ζ];exact qes d.ok τ h G
 | c12 x0 n0 r0=>
  obtain⟨g,cap,rfl,I,G⟩:=J.got;obtain⟨s,rfl⟩:=N ζ;obtain⟨d,O,U⟩:=hi s rfl ζ;rw[AZ H ζ];exact qdX d.ok τ h G
 | c13 x0 n0 r0=>
  obtain⟨g,cap,rfl,I,G⟩:=J.got;obtain⟨s,rfl⟩:=N ζ;obtain⟨d,O,U⟩:=hi s rfl ζ;rw[AZ H ζ];exact qev d.ok τ aa h I G
 | c14 x0 n0 r0=>
  obtain⟨g,cap,rfl,I,G⟩:=J.got;obtain⟨s,rfl⟩:=N ζ;obtain⟨d,O,U⟩:=hi s rfl ζ;rw[AZ H ζ];exact qer d.ok τ (d.wid τ n0) aa h G
 | c15 x0 n0 r0=>
  obtain⟨g,cap,rfl,I,G⟩:=J.got;obtain⟨s,rfl⟩:=N ζ;obtain⟨d,O,U⟩:=hi s rfl ζ;unfold WdR at r0;obtain⟨k,rfl⟩: ∃k:Nat,n0=(k:Int):=⟨n0.toNat,τ⟩;have ad:wtL [⟨#[116,105,99,107]⟩,x0]=4+1+(x0.size+1):=qcj ζ;rw[AZ H ζ];exact qeQ d.ok τ τ h G
 | c16 x0 n0 r0=>
  obtain⟨g,cap,rfl,I,G⟩:=J.got;obtain⟨s,rfl⟩:=N ζ;obtain⟨d,O,U⟩:=hi s rfl ζ;unfold WdR at r0;obtain⟨k,rfl⟩: ∃k:Nat,n0=(k:Int):=⟨n0.toNat,τ⟩;have ad:wtL [⟨#[116,117,114,110]⟩,x0]=4+1+(x0.size+1):=qcj ζ;rw[AZ H ζ];exact qeP d.ok τ aa h G
 | c17=>
  obtain rfl:=J.no;obtain⟨s,rfl⟩:=N ζ;obtain⟨d,O,U⟩:=hi s rfl ζ;rw[AZ H ζ];exact qeU d.ok τ h
 | c18=>
  obtain rfl:=J.no;obtain⟨s,rfl⟩:=N ζ;obtain⟨d,O,U⟩:=hi s rfl ζ;rw[AZ H ζ];exact qeT d.ok τ h
 | c19=>
  obtain rfl:=J.no;obtain⟨s,rfl⟩:=N ζ;obtain⟨d,O,U⟩:=hi s rfl ζ;rw[AZ H ζ];exact qet d.ok τ h
 | c20=>
  obtain rfl:=J.no;obtain⟨s,rfl⟩:=N ζ;obtain⟨d,O,U⟩:=hi s rfl ζ;rw[AZ H ζ];exact qdn d.ok τ h
 | c21=>
  obtain rfl:=J.no;obtain⟨s,rfl⟩:=N ζ;obtain⟨d,O,U⟩:=hi s rfl ζ;rw[AZ H ζ];exact qdY d.ok τ aa h
 | c22=>
  obtain rfl:=J.no;obtain⟨s,rfl⟩:=N ζ;obtain⟨d,O,U⟩:=hi s rfl ζ;rw[AZ H ζ];exact qeW (by have:=d.few;omega) d.rq aa h
 | c23=>
  obtain rfl:=J.no;obtain⟨s,rfl⟩:=N ζ;obtain⟨d,O,U⟩:=hi s rfl ζ;rw[AZ H ζ];exact qew (by have:=d.ret;omega) h
def qbU:List ByteArray->Bool
 | []=>ύ
 | nm::args=>decide (qbM nm=0)&&match BC nm with
  | none=>ύ
  | some fm=>match xb fm.data.toList args with
   | none=>ύ
   | some ns=>xY (qcy ns)
def qdc:List (List ByteArray)->Nat
 | []=>0
 | ws::L=>if qbU ws=ό then 0 else wtL ws+qdc L
def okL:List (List ByteArray)->Prop
 | []=>True
 | ws::L=>(qbU ws=ό->qdc L<=2000)/\okL L
def qca (L:List (List ByteArray)) (o:Option RmS):Prop:=okL L/\ ∀s,o=ϊ s-> ∃n t,ScI n t s/\n+50* qdc L<=100000/\t+3* qdc L<=18000
def qbN (ws:List ByteArray) (L:List (List ByteArray)):qdc (ws::L)=if qbU ws=ό then 0 else wtL ws+qdc L:=rfl
def qca.skip (h:qca (ws::L) o) (d:qbU ws=ύ):qca L o:=by
 refine⟨h.1.2,λs e=> ?_⟩;obtain⟨n,t,a,b,c⟩:=h.2 s e;rw[qbN,Ϗ (by rw[d];decide)] at b c;exact⟨n,t,a,τ,τ⟩
def room_I:(d.toList==([114,111,111,109]:List UInt8))=ό↔qbM d=0:=by
 unfold qbM;rw[ByteArray.toList_eq,cmdL,List.findIdx_cons];have e:(([114,111,111,109]:List UInt8)==d.data.toList)=(d.data.toList==[114,111,111,109]):=by rw[D2,P6,P6];exact eq_comm
 simp only[e];cases (d.data.toList==[114,111,111,109])<;>simp
def qcF (h:BC H=ϊ fm):fm.data.toList.length<=100:=by
 unfold BC at h;rw[K6] at h;obtain⟨p,G,rfl⟩:=h;have d:=Q7 G;have key: ∀p∈cmdL,p.2.length<=100:=by decide
 exact key p d
def qeF (hF:BC d=ϊ fm) (G:xb fm.data.toList args=ϊ ns) (h:qbM d=0):17<=wtL (d::args):=by
 have k:=qci hF G;rw[h] at k;cases k with
 | c0 x0 x1 x2 x3 x4 x5 n0 n1 n2 n3 n4 n5 r0 r1 r2 r3 r4 r5=>
  unfold WdR at *;have H:wtL [⟨#[114,111,111,109]⟩,x0,x1,x2,x3,x4,x5]=4+1+(x0.size+1+(x1.size+1+(x2.size+1+(x3.size+1+(x4.size+1+(x5.size+1+0)))))):=qcj ζ;omega
def qdG (hF:BC d=ϊ fm) (G:xb fm.data.toList args=ϊ ns):qbU (d::args)=(decide (qbM d=0)&&xY (qcy ns)):=by
 simp only[qbU,hF,G]
def qdC (h:qca ((H::args)::L) o) (J: ∀s,o=ϊ s-> ∀x,∀p∈(s.ln x).W,Byt p.2) (hF:BC H=ϊ fm) (I:xb fm.data.toList args=ϊ ns):qca L (stS o H ns).1/\qeE (stS o H ns).2:=by
 have d:=qdG hF I;unfold stS;split
 ·rename_i G;rw[ϻ G,I9] at d;cases hc:xY (qcy ns) with
  | true=>
   rw[hc] at d;have e:Fv o (qcy ns)=(ϊ (ud (qcy ns)),0):=ϓ hc;simp only[e];refine⟨⟨h.1.2,λs q=> ?_⟩,ϫ _⟩;cases q;have:=h.1.1 d;exact⟨0,0,ScI.new hc,τ,τ⟩
  | false=>
   rw[hc] at d;have e:Fv o (qcy ns)=(o,1):=Ϗ (by rw[hc];decide);simp only[e];exact⟨h.skip d,(by show (0:Int)<=1/\(1:Int)<=1000;decide)⟩
 ·rename_i G;rw[ϯ G,J1] at d;cases o with
  | none=>exact⟨h.skip d,(by show (0:Int)<=5/\(5:Int)<=1000;decide)⟩
  | some s=>
   obtain⟨n,t,a,b,c⟩:=h.2 s rfl;rw[qbN,Ϗ (by rw[d];decide)] at b c;obtain⟨N,O⟩:=qeX a (J s rfl) (qci hF I) G τ τ;refine⟨⟨h.1.2,λs' q=> ?_⟩,O⟩;cases q;exact⟨_,_,N,τ,τ⟩
def qdb (hF:BC d=ϋ):kc o (d::args)=(o,qbT 2):=by
 simp only[kc,hF]
def qda (hF:BC d=ϊ fm) (G:xb fm.data.toList args=ϋ):kc o (d::args)=(o,qbT 2):=by
 simp only[kc,hF,G]
def qcw (hF:BC d=ϊ fm) (G:xb fm.data.toList args=ϊ ns):kc o (d::args)=((stS o d ns).1,qd2 (stS o d ns).2):=by
 simp only[kc,hF,G]
def qdi {k:Int} (h:0<=k/\k<=1000):(qbT k).length<=8000020:=by
 have:=qbR k ⟨h.1,τ⟩;unfold qbT;rw[ώ];show 6+_<=_;omega
def qeC {r:Res} (h:qeE r):(qd2 r).length<=8000020:=by
 cases r with
 | told l=>
  have d:l.length<=8000000:=h;show (Sk l).length<=_;unfold Sk;split
  ·show 2<=8000020;omega
  ·rw[ώ];show 3+l.length<=_;omega
 | err e=>exact qdi h
def qcm (h:qca (ws::L) o) (G: ∀s,o=ϊ s-> ∀x,∀p∈(s.ln x).W,Byt p.2):qca L (kc o ws).1/\(kc o ws).2.length<=8000020:=by
 have d:(qbT 2).length<=8000020:=qdi ζ;cases ws with
 | nil=>exact⟨h.skip rfl,ϫ _⟩
 | cons nm args=>
  cases hF:BC nm with
  | none=>rw[qdb hF];exact⟨h.skip (by simp only[qbU,hF,M4]),d⟩
  | some fm=>
   cases hN:xb fm.data.toList args with
   | none=>rw[qda hF hN];exact⟨h.skip (by simp only[qbU,hF,hN,M4]),d⟩
   | some ns=>
    rw[qcw hF hN];obtain⟨H,I⟩:=qdC h G hF hN;exact⟨H,qeC I⟩
def qdj {k:Int} (h:0<=k/\k<=1000):(qbT k).length<=19:=by
 have:=qbR k ⟨h.1,τ⟩;unfold qbT;rw[ώ];show 6+_<=_;omega
def qc6 (l:List UInt8):(Sk l).length<=l.length+3:=by
 unfold Sk;split
 ·show 2<=_;omega
 ·rw[ώ];show 3+l.length<=_;omega
def qel (h:qca (ws::L) o) (G: ∀s,o=ϊ s-> ∀x,∀p∈(s.ln x).W,Byt p.2):(kc o ws).2.length<=1000+1700000* wtL ws:=by
 have k:=(qcm h G).2;have H:(qbT 2).length<=19:=qdj ζ;have I:(qbT 5).length<=19:=qdj ζ;by_cases h5:5<=wtL ws
 ·omega
 ·cases ws with
  | nil=>exact ϫ _
  | cons nm args=>
   cases hF:BC nm with
   | none=>rw[qdb hF];simp only;omega
   | some fm=>
    cases hN:xb fm.data.toList args with
    | none=>rw[qda hF hN];simp only;omega
    | some ns=>
     have c:=qci hF hN;rw[qcw hF hN];have hi:qbM nm=21∨qbM nm=23:=by rcases qdq c with e | e | e<;>omega
     have d: ¬qbM nm=0:=by omega
     cases o with
     | none=>
      have e:stS ϋ nm ns=(ϋ,.err 5):=Ϗ d;rw[e];show (qbT 5).length<=_;omega
     | some s=>
      obtain⟨n,t,a,b,_⟩:=h.2 s rfl;rw[AZ rfl d];rcases hi with hi | hi
      ·rw[hi] at c ⊢;cases c;have:=qbO _ (qb9 a.ok τ) [32];have:=qc6 (Lib.join ((qbK s).map Lib.itoa) [32]);show (Sk (Lib.join ((qbK s).map Lib.itoa) [32])).length<=_;have e:(qbK s).length* (13+([32]:List UInt8).length)=70:=rfl;omega
      ·rw[hi] at c ⊢;cases c;have:=qc6 (qbS s.ended);have J:(qbS s.ended).length<=3:=by cases s.ended<;>decide
       show (Sk (qbS s.ended)).length<=_;omega
def qem {O:World} {off cap:Nat}
  (h:Pl O pb o F w) (H:SlP 1 RTx w (δ (ϊ ⟨b,off,ϋ⟩) (args.length+1) cap) (d::args)) (G:Lib.TabIs prog O N9 .u64 Lib.pow10Tab) (Y:qca ((d::args)::L) o):
  Calls prog 17 #[γ pb,δ (ϊ ⟨b,off,ϋ⟩) (args.length+1) cap] w λe w'=>e= .returned (.string ⟨((kc o (d::args)).2).toArray⟩)/\Pl O pb (kc o (d::args)).1 F w'/\PS pb F w w':=by
 obtain⟨N,I⟩: ∃N,cap=1/\args=[]/\N=(⟨b,off,ϋ⟩:Addr)∨ ¬cap=1/\N=⟨b,off+1,ϋ⟩:=by
  by_cases hc:cap=1
  ·obtain⟨ah,ag,e,_,_,ad,_⟩:=id H;injection e with _ _ e3
   subst e3;rw[hc,Ϙ] at ad;exact⟨_,ϑ ⟨hc,Ϡ τ,rfl⟩⟩
  ·exact⟨_,ϕ ⟨hc,rfl⟩⟩
 have ae: ∀s,o=ϊ s-> ∀x,∀p∈(s.ln x).W,Byt p.2:=λs e x=>by subst e;exact h.wbyt x
 cases hF:BC d with
 | none=>rw[qdb hF];exact qdU h H G I hF
 | some fm=>
  cases hN:xb fm.data.toList args with
  | none=>rw[qda hF hN];exact qdS h H G I hF (qcF hF) hN
  | some ns=>
   rw[qcw hF hN];by_cases hI:qbM d=0∨ ∃s,o=ϊ s
   ·have J:=(qdC Y ae hF hN).2;obtain⟨n,t,hi⟩: ∃n t,∀s,o=ϊ s->qbM d≠0->ScI n t s/\n+50* wtL (d::args)<=100000/\t+3* wtL (d::args)<=18000:=by
     cases o with
     | none=>exact⟨0,0,λs e=>by cases e⟩
     | some s=>
      obtain⟨n,t,a,b,c⟩:=Y.2 s rfl;refine⟨n,t,λs' e ac=> ?_⟩;cases e;rw[qbN,Ϗ (by rw[qdG hF hN,ϯ ac,J1];decide)] at b c;exact⟨a,τ,τ⟩
    exact qeM h H G I hF (qcF hF) hN (hI.imp room_I.2 λ⟨s,e⟩=>by rw[e];rfl) (λl e=>by rw[e] at J;exact J) (λe q=>by rw[q] at J;exact J) (λF' w' v ab af=>qfc rfl (qci hF hN) G hi hI ab af)
   ·have aa:o=ϋ:=by
     cases o with
     | none=>rfl
     | some s=>exact ϧ (ϕ ⟨s,rfl⟩) hI
    have U: ¬qbM d=0:=λe=>hI (ϑ e)
    have e:stS o d ns=(ϋ,.err 5):=by
     unfold stS;rw[Ϗ U,aa]
    rw[e];refine qdT h H G I hF (qcF hF) hN aa ?_;cases hq:(d.toList==([114,111,111,109]:List UInt8)) with
    | false=>rfl
    | true=>exact ϧ (room_I.1 hq) U
def qck (s:ByteArray):List ByteArray:=Lib.splitB ⟨#[32]⟩ 0 (Lib.countB s ⟨#[32]⟩) s
def qcr (x:ByteArray):Bool:= !(x.toList==([]:List UInt8))
def qc (s:ByteArray):List ByteArray:=(qck s).filter qcr
def qcK (s:ByteArray):(qck s).length=Lib.countB s ⟨#[32]⟩+1:=Lib.splitB_all _ ζ 0 _ s rfl
def qdt (s:ByteArray):(qck s).length<=s.size+1:=by
 rw[qcK];have:=Lib.countB_le ⟨#[32]⟩ ζ s.size s (ϔ _);omega
def qc7 (s:ByteArray) (I:s.size<=100000) {aF:Int} (w:World) (ag:w.cell? ⟨OQ,0,ϋ⟩=ϊ (ι aF)):
  Calls prog 9 #[.string s] w λe w'=>(∃J cap,e= .returned (δ J (qc s).length cap)/\SlP 1 RTx w' (δ J (qc s).length cap) (qc s))/\ql w w':=by
 obtain⟨aD,hi,ay,az,aA⟩:=info_parts (P:=prog) (e:=9) (z:= .string ByteArray.empty) (size:=1) (bytes:=16) ξ;have N:=κ (So s ⟨#[32]⟩ w τ ag ζ);have aj:=qcK s;have ai:=qdt s;rw[show Lib.splitB ⟨#[32]⟩ 0 (Lib.countB s ⟨#[32]⟩) s=qck s from rfl,<-aj] at N;obtain⟨ps,Y⟩:=ν (qck s);have ap:Hid (qc s=ps.filter qcr):=κ (by unfold qc;rw[Y]);rw[Y] at N ai;have aI:ps.length<=100001:=by omega
 clear Y aj ag ai
 go_enter func9,ntmps9
 go_wp2_with ((go_at_call 6;(go_call N.o as e w1 ⟨rfl,U⟩;have aq:Hid (ql w w1):=κ (by rw[U];exact ql.alloc _ _);have am:Hid (w1.heap[w.heap.size]? =ϊ (.cells (ps.map Value.string).toArray 9 (0,0))):=κ (by rw[U];exact qj _ _);clear U)))
 go_loopw [3,9] (λu aa wr=> ∃i:Nat,i<=ps.length/\aa= ι i/\(∃ac ab O,u= δ ac ab O)/\je 1 RTx (λ_=>False) wr w1.heap.size 9 u ((ps.take i).filter qcr)/\ql w1 wr) (λ_ aa _=>ps.length-(intOf aa).toNat)
 case atStart=>exact⟨0,τ,rfl,⟨_,_,_,rfl⟩,je.nil _ _ _ _ _ _,ql.refl _⟩
 case round=>
  obtain⟨i,aJ,rfl,⟨ac,ab,O,rfl⟩,ak,ah⟩:=hrel;have H:=κ ak;have d:=κ ah;clear ak ah;by_cases hlt:i<ps.length
  ·have aw:(i:Int)<(ps.length:Int):=by omega
   have aG:wr.cell? ⟨w.heap.size,i,ϋ⟩=ϊ (.string ps[i]):=qa (qq d.o am.o) i (by simp[ϖ hlt]);have ad:Hid ((ps.take (i+1)).filter qcr=(ps.take i).filter qcr++if qcr ps[i]=ό then [ps[i]] else []):=κ (by rw[ϡ hlt,G0];congr 1;simp[G2]);have aK:((ps.take i).filter qcr).length<=100001:=by
    have au:=C7 qcr (ps.take i);rw[Ϥ] at au;omega
   generalize ps[i]=x at *;generalize (ps.take i).filter qcr=fl at *;obtain⟨q,ax⟩:=ν ((x.toList==([]:List UInt8)));have ae:Hid ((ps.take (i+1)).filter qcr=fl++if q=ύ then [x] else []):=κ (by rw[ad.o];unfold qcr;rw[ax];cases q<;>rfl);clear ad;cases q with
   | false=>
    have ao:=κ (H.o.on (ql.alloc wr (.cells #[.string x] 9)));have an:Hid (∀b,(δ ac ab O).ownBlock=ϊ b->w1.heap.size<=b):=κ (λb h=>H.o.ge h)
    go_wp2_with (at_builtin;(refine jN (R:=RTx) (D:=λ_=>False) _ rfl (.tmp 15) (.tmp 17) 27 rfl w1.heap.size 9 aD (.string ByteArray.empty) 1 16 underlying27 hi ay az aA rfl ζ _ fl rfl ao.o wr.heap.size [.string x] x rfl rfl (zS η) X8 (λw' _=>rfl) (λb h=>h.elim) ζ τ (d.o.al _).size ?_;intro v' w8 G af av;have aE:Hid (ql w1 w8):=κ (Below.grown (d.o.al _) af (d.o.al _).size an.o);obtain⟨aM,aL,aH,rfl,aB,aC⟩:=G.shape;have ar:=κ G;clear G af av aB aC))
    go_roundw
    case rel=>exact⟨i+1,τ,by go_num,⟨_,_,_,rfl⟩,by rw[ae.o];exact ar.o,aE.o⟩
    case measure=>simp[intOf];omega
   | true=>
    go_wp2;go_roundw
    case rel=>exact⟨i+1,τ,by go_num,⟨_,_,_,rfl⟩,by rw[ae.o];simpa using H.o,d.o⟩
    case measure=>simp[intOf];omega
  ·obtain rfl:i=ps.length:=by omega
   have aw: ¬(ps.length:Int)<(ps.length:Int):=by omega
   go_wp2;go_ret;have G:=H.o;rw[Ϩ,<-ap.o] at G;have I:=G.sl ζ;obtain⟨J,cap,e,_⟩:=id I;rw[e] at I ⊢;exact⟨⟨J,cap,rfl,I⟩,aq.o.trans d.o⟩
def gt (c:UInt8):List UInt8->List (List UInt8)
 | []=>[[]]
 | b::l=>if b=c then []::gt c l else ((b::(gt c l).headD [])::(gt c l).tail)
def qc4 (c b:UInt8) (l:List UInt8):gt c (b::l)=if b=c then []::gt c l else ((b::(gt c l).headD [])::(gt c l).tail):=rfl
def qdJ (c:UInt8): ∀l,gt c l≠[]
 | []=>by simp[gt]
 | b::l=>by unfold gt;split<;>simp
def qfe (l:List UInt8):(gt c l).headD []::(gt c l).tail=gt c l:=by
 cases h:gt c l with
 | nil=>exact ϧ h (qdJ c l)
 | cons x xs=>rfl
def qdI (c:UInt8) (b:List UInt8): ∀a:List UInt8,gt c (a++c::b)=gt c a++gt c b
 | []=>by simp[gt]
 | x::a=>by
  have d:=qdI c b a;rw[M6,qc4,qc4,d];split
  ·rfl
  ·cases h:gt c a with
   | nil=>exact ϧ h (qdJ c a)
   | cons y ys=>rfl
def qcU (c:UInt8): ∀s:List UInt8,Lib.splitK [c] 0 (Lib.count s [c]) s=gt c s
 | []=>by rw[Lib.count_miss (by simp[Lib.index])];rfl
 | b::l=>by
  have H:=qcU c l;by_cases h:b=c
  ·subst h;have d:Lib.index (b::l) [b]=((0:Nat):Int):=by rw[Lib.index];simp[List.isPrefixOf]
   rw[Lib.count_cons_eq,X4];unfold Lib.splitK gt;rw[d,Ϗ ζ,ϓ rfl,<-H];rfl
  ·have I:([c]:List UInt8).isPrefixOf (b::l)=ύ:=by simp[List.isPrefixOf,C4 h]
   have d:Lib.index (b::l) [c]=if Lib.index l [c]== -1 then -1 else Lib.index l [c]+1:=by rw[Lib.index,I];simp
   rw[Lib.count_cons_ne b c l h];unfold gt;rw[Ϗ h,<-H];by_cases hm:Lib.index l [c]= -1
   ·rw[Lib.count_miss hm];rfl
   ·have J:=Lib.index_ge l [c];obtain⟨j,G⟩: ∃j:Nat,Lib.index l [c]=j:=⟨(Lib.index l [c]).toNat,τ⟩;rw[Lib.count_hit η G];rw[G] at d;rw[Ϗ η] at d;rw[X4 1];unfold Lib.splitK;rw[d,G,Ϗ (by simp;omega),Ϗ η];have e:((j:Int)+1).toNat=j+1:=by omega
    rw[e,A5];rfl
def ofL (l:List UInt8):ByteArray:=⟨l.toArray⟩
def qds (s:ByteArray):ofL s.data.toList=s:=by cases s;simp[ofL]
def qeL (L:List ByteArray):(L.map (·.data.toList)).map ofL=L:=by
 rw[G4]
 conv=>rhs;rw[<-List.map_id L]
 exact G9 λs _=>qds s
def qcJ (c:UInt8) (s:ByteArray):Lib.splitB ⟨#[c]⟩ 0 (Lib.countB s ⟨#[c]⟩) s=(gt c s.data.toList).map ofL:=by
 rw[<-qeL (Lib.splitB ⟨#[c]⟩ 0 (Lib.countB s ⟨#[c]⟩) s),Lib.splitB_data]
 congr 1
 exact qcU c s.data.toList
def qg (T:ByteArray):List ByteArray:=Lib.splitB ⟨#[10]⟩ 0 (Lib.countB T ⟨#[10]⟩) T
def BO (T:ByteArray):qg T=(gt 10 T.data.toList).map ofL:=qcJ 10 T
def qcM (T:ByteArray):(qg T).length=Lib.countB T ⟨#[10]⟩+1:=Lib.splitB_all _ ζ 0 _ T rfl
def qdv (T:ByteArray):(qg T).length<=T.size+1:=by
 rw[qcM];have:=Lib.countB_le ⟨#[10]⟩ ζ T.size T (ϔ _);omega
def qdF (f:α->Nat): ∀(L:List α) (x:α),x∈L->f x<=(L.map f).sum
 | y::L,x,h=>by
  rw[Ϛ,G3];rcases Ϟ.1 h with rfl | h
  ·omega
  ·have:=qdF f L x h;omega
def qdB {f g:α->Nat}: ∀L:List α,(∀x∈L,f x<=g x)->(L.map f).sum<=(L.map g).sum
 | [],_=>ϔ _
 | x::L,h=>by
  rw[Ϛ,G3,Ϛ,G3];have:=h x η;have:=qdB L (λy d=>h y (ϛ _ d));omega
def qcx (c:UInt8): ∀l:List UInt8,((gt c l).map λp=>p.length+1).sum=l.length+1
 | []=>rfl
 | b::l=>by
  have d:=qcx c l;unfold gt;split
  ·rw[Ϛ,G3,d,Ϙ];simp;omega
  ·rw[<-qfe l] at d;simp only[Ϛ,G3,Ϙ] at d ⊢;omega
def qfd (c:UInt8) (l:List UInt8): ∀p∈gt c l,p.length<=l.length:=by
 intro p d;have h:=qcx c l;have:p.length+1<=((gt c l).map λp=>p.length+1).sum:=qdF (λp:List UInt8=>p.length+1) _ p d;omega
def qd (s:ByteArray):qc s=((gt 32 s.data.toList).map ofL).filter qcr:=by
 unfold qc qck;rw[qcJ]
def qcN (f:α->Nat) (p:α->Bool): ∀L:List α,((L.filter p).map f).sum<=(L.map f).sum
 | []=>ϔ _
 | x::L=>by
  have:=qcN f p L;rw[G2];split
  ·simp only[Ϛ,G3];omega
  ·simp only[Ϛ,G3];omega
def qbQ (l:List UInt8):(ofL l).size=l.length:=by unfold ofL;simp[ByteArray.size]
def qe8 (ws:List ByteArray):wtL ws<=(ws.map λx=>x.size+1).sum:=by
 cases ws with
 | nil=>exact ϫ _
 | cons nm args=>
  rw[Ϛ,G3];show (if qbM nm=21∨qbM nm=23 then 0 else (nm.size+1)+(args.map λx=>x.size+1).sum)<=_;split
  ·exact ϫ _
  ·exact ϔ _
def qeb (s:ByteArray):wtL (qc s)<=s.size+1:=by
 refine ϙ (qe8 _) ?_;rw[qd];refine ϙ (qcN _ _ _) ?_;rw[G4];have h:=qcx 32 s.data.toList;have e:((gt 32 s.data.toList).map ((λx:ByteArray=>x.size+1)∘ofL))=(gt 32 s.data.toList).map λp=>p.length+1:=G9 λp _=>by show (ofL p).size+1=_;rw[qbQ]
 rw[e,h];exact ϔ _
def wtS (L:List (List ByteArray)):Nat:=(L.map wtL).sum
def qbV (ws:List ByteArray) (L:List (List ByteArray)):wtS (ws::L)=wtL ws+wtS L:=by
 unfold wtS;rw[Ϛ,G3]
def qcu: ∀L M:List (List ByteArray),wtS (L++M)=wtS L+wtS M
 | [],M=>by rw[I0];show wtS M=0+wtS M;omega
 | x::L,M=>by rw[M6,qbV,qbV,qcu L M];omega
def qdr (T:ByteArray):wtS ((qg T).map qc)<=T.size+1:=by
 unfold wtS;rw[BO,G4,G4];have h:=qcx 10 T.data.toList;refine ϙ (qdB (g:=λp:List UInt8=>p.length+1) _ λp _=> ?_) (Nat.le_of_eq h);have:=qeb (ofL p);rw[qbQ] at this;exact this
def qc9: ∀L:List (List ByteArray),qdc L<=wtS L
 | []=>ϔ _
 | ws::L=>by
  have:=qc9 L;rw[qbN,qbV];split<;>omega
def qeo (h:qbU ws=ό):17<=wtL ws:=by
 cases ws with
 | nil=>cases h
 | cons nm args=>
  unfold qbU at h;rw[C2,C3] at h;obtain⟨G,d⟩:=h;cases hF:BC nm with
  | none=>rw[hF] at d;cases d
  | some fm=>
   simp only[hF] at d;cases hN:xb fm.data.toList args with
   | none=>rw[hN] at d;cases d
   | some ns=>exact qeF hF hN G
def qcA: ∀L:List (List ByteArray),wtS L<=2016->okL L
 | [],_=>trivial
 | ws::L,h=>by
  rw[qbV] at h;refine⟨λg=> ?_,qcA L τ⟩;have:=qeo g;have:=qc9 L;omega
def qcZ (d:qbU R=ό) (M:List (List ByteArray)): ∀L:List (List ByteArray),qdc (L++R::M)<=wtS L
 | []=>by rw[I0,qbN,ϓ d];exact ϫ _
 | ws::L=>by
  have:=qcZ d M L;rw[M6,qbN,qbV];split<;>omega
def qcD (G:qbU R=ό) {M:List (List ByteArray)} (d:wtS M<=2000): ∀L:List (List ByteArray),wtS L<=2000->okL (L++R::M)
 | [],_=>⟨λ_=>ϙ (qc9 M) d,qcA M τ⟩
 | ws::L,h=>by
  rw[qbV] at h;refine⟨λ_=> ?_,qcD G d L τ⟩;have:=qcZ G M L;have e:(L++R::M)=L.append (R::M):=rfl;rw[<-e];omega
def qca.none (h:okL L):qca L Option.none:=⟨h,λs e=>by cases e⟩
def lnS (o:Option RmS) (ln:ByteArray):Option RmS×List UInt8:=match qc ln with
 | []=>(o,[])
 | nm::args=>((kc o (nm::args)).1,(kc o (nm::args)).2++[10])
def qbL:Option RmS->List ByteArray->Option RmS×List UInt8
 | o,[]=>(o,[])
 | o,ln::L=>((qbL (lnS o ln).1 L).1,(lnS o ln).2++(qbL (lnS o ln).1 L).2)
def qbX (o:Option RmS) (ln:ByteArray) (L:List ByteArray):qbL o (ln::L)=((qbL (lnS o ln).1 L).1,(lnS o ln).2++(qbL (lnS o ln).1 L).2):=rfl
def qcB: ∀(L M:List ByteArray) (o:Option RmS),qbL o (L++M)=((qbL (qbL o L).1 M).1,(qbL o L).2++(qbL (qbL o L).1 M).2)
 | [],M,o=>rfl
 | x::L,M,o=>by
  rw[M6,qbX,qcB L M,qbX];simp only[ϭ]
def qei (o:Option RmS) (ln:ByteArray):qbL o [ln]=lnS o ln:=by
 show ((lnS o ln).1,(lnS o ln).2++[])=_;rw[Θ]
def qcV (o:Option RmS) (L:List ByteArray) (j:Nat) (h:j<L.length):qbL o (L.take (j+1))=((lnS (qbL o (L.take j)).1 L[j]).1,(qbL o (L.take j)).2++(lnS (qbL o (L.take j)).1 L[j]).2):=by
 rw[ϡ h,qcB,qei]
def Oq (w:World) (base:Nat) (t u H e:TypeId) (i:TypeInfo) (N:P.underlying t=ϊ (.slice e)) (O:P.underlying u=ϊ .string) (hi:P.info? e=ϊ i) (ab:i.zero=ϊ (υ 0))
  (J:i.size=1) (Y:i.bytes=1) (v:Value) (n:Nat) (xs:List Value) (G:w.ownsRow base e 1 v n xs) (s:ByteArray)
  (U:n+s.size<=maxLen) (ac:n+s.size<=140737488355328) (ag:base<=w.heap.size):
  ∃v' w',(Builtin.append_ #[t,u] H #[v,.string s]).run P w= .ok v' w'/\w'.ownsRow base e 1 v' (n+s.size) (xs++Lib.strCells s)/\w.grownBy w' v.ownBlock/\(∀g,v'.ownBlock=ϊ g->v.ownBlock=ϊ g∨w.heap.size<=g):=by
 obtain⟨v',w',I,ae,af,_⟩:=Lib.run_append_own_string (P:=P) w base t u H e i N O hi ab J Y v n xs G s U ac ag;refine⟨v',w',I,ae,af,λg aa=> ?_⟩;rcases id G.2 with ⟨rfl,ad⟩ | ⟨b,cap,cur,rfl,ak,ai,an,al,ah,ao⟩
 ·subst ad;obtain rfl:xs=[]:=Ϡ (by simpa using G.1);obtain⟨ap,w2,d,aj,_⟩:=Lib.run_append_own_string (P:=P) w w.heap.size t u H e i N O hi ab J Y _ 0 [] (World.ownsRow_nil w _ e 1) s U ac (ϔ _);rw[I] at d;injection d with e1 e2
  subst e1;exact ϕ (jS aj aa)
 ·by_cases hroom:n+s.size<=cap
  ·have am:cur.size=cap:=by simpa using ah
   have d:=Lib.run_append_room_string (P:=P) w t u H e i N O hi J b n cap cur ai s hroom τ;rw[I] at d;injection d with e1 e2
   subst e1;exact ϑ aa
  ·have d:=Lib.run_append_grow_string (P:=P) w t u H e i (υ 0) N O hi ab ⟨b,0,ϋ⟩ n cap xs (by rw[J];simpa using G.1) (G.cells (g:=b) rfl) s τ (by simp only[maxLen] at U;omega) (by rw[Y];exact growslice_fits τ τ);rw[I] at d;injection d with e1 e2
   subst e1;refine ϕ (Nat.le_of_eq ?_);injection aa
def Oo {ops:Array Oper} {rest:List Oper} {o:Oper} {a:Act} {Q:Exit->Act->World->Prop} (aa:o.guard=ϋ) (d x:Operand) (t u:TypeId)
  (ab:o.op= .call {callee:= .builtin .append,args:= #[d,x],argTypes:= #[t,u]})
  (base:Nat) (e:TypeId) (i:TypeInfo) (ag:P.underlying t=ϊ (.slice e)) (ah:P.underlying u=ϊ .string) (hi:P.info? e=ϊ i) (aj:i.zero=ϊ (υ 0)) (af:i.size=1) (U:i.bytes=1)
  (v:Value) (n:Nat) (xs:List Value) (ae:a.eval d=v) (ac:w.ownsRow base e 1 v n xs) (s:ByteArray) (ai:a.eval x= .string s)
  (J:n+s.size<=maxLen) (Y:n+s.size<=140737488355328) (O:base<=w.heap.size)
  (h: ∀v' w',w'.ownsRow base e 1 v' (n+s.size) (xs++Lib.strCells s)->w.grownBy w' v.ownBlock->(∀g,v'.ownBlock=ϊ g->v.ownBlock=ϊ g∨w.heap.size<=g)->wpList P ops Q rest (a.put o.dst v') w'):wpList P ops Q (o::rest) a w:=by
 refine wpList_plain aa λK N=> ?_
 obtain⟨v',w',ad,G,H,I⟩:=Oq (P:=P) w base t u o.type e i ag ah hi aj af U v n xs ac s J Y O;unfold Oper.wp execOp;simp only[ab,resolve,invoke,builtin,Sem.run_bind,Sem.run_pure,Result.andThen_ok,K0,Ϛ,C6,ae,ai,ad];exact N _ _ (h v' w' G H I)
def Bd (B:Nat) (F:List Nat) (w:World) (b:Nat) (l:List UInt8):Prop:=b∈F/\B<=b/\ ∃p v,(p= .pointer ϋ∨p= .pointer (ϊ ⟨b,0,ϋ⟩))/\w.heap[b]? =ϊ (.cells #[p,v] 26 (0,0))/\w.ownsRow B 5 1 v l.length (Lib.byteCells l)/\v.ownBlock≠ϊ b/\ ∀g,v.ownBlock=ϊ g->g∈F
def Bd.is (h:Bd B F w b l):Lib.IsBuilder 26 5 B b (Lib.byteCells l) w:=by
 obtain⟨_,d,p,v,J,G,I,H,_⟩:=h;rcases J with rfl | rfl
 ·exact ϑ ⟨d,v,G,by rw[Lib.byteCells_length];exact I,H⟩
 ·exact ϕ ⟨d,v,G,by rw[Lib.byteCells_length];exact I,H⟩
def Bd.more {w':World} (h:Bd B F w b l) (t:qw F w w'):Bd B F w' b l:=by
 obtain⟨hF,J,p,v,U,d,O,N,G⟩:=h;refine⟨hF,J,p,v,U,by rw[t.2 b hF];exact d, ?_,N,G⟩;obtain⟨H,I⟩:=O;refine⟨H, ?_⟩;rcases I with h | ⟨g,cap,cur,e1,d,hgg,rest⟩
 ·exact ϑ h
 ·exact ϕ ⟨g,cap,cur,e1,d,by rw[t.2 g (G g (by rw[e1];rfl))];exact hgg,rest⟩
def Ro (h:Bd B F w b l):
  Calls prog 15 #[γ b] w λe w'=>e= .returned (.tuple #[])/\(∃v,w'.heap[b]? =ϊ (.cells #[γ b,v] 26 (0,0))/\w'.ownsRow B 5 1 v l.length (Lib.byteCells l)/\v.ownBlock≠ϊ b/\ ∀g,v.ownBlock=ϊ g->g∈F)/\jt (λx=>x∈F) w w':=by
 have d:=h.is;obtain⟨hF,O,p,v,U,G,J,H,I⟩:=h;rcases d with d | d
 ·refine(Any.Builder_copyCheck_fresh {OF with} bldX.toX72 b w d.cell0 d.shape d.frozen0).mono ?_;rintro e w' ⟨rfl,rfl⟩;refine⟨rfl,⟨v,by simp[World.setCell,F8,G], ?_,H,I⟩,(jt.refl _ _).set hF _⟩;exact J.kept (row:=ϊ b) ⟨rfl,rfl,rfl,by simp[World.setCell],λk _ N=>Below.heap_setCell _ _ _ _ (λe=>N (by simp[e]))⟩ (ϕ H)
 ·refine(Any.Builder_copyCheck_used {OF with} bldX.toX72 b w d.cell0).mono ?_;rintro e w' ⟨rfl,rfl⟩;have e0:=d.cell0;rw[Lib.cell_of_heap G] at e0;injection e0 with e0
  subst e0;exact⟨rfl,⟨v,G,J,H,I⟩,jt.refl _ _⟩
def Sn {v':Value} (hF:b∈F) (I:B<=b) (d:w.heap[b]? =ϊ (.cells #[γ b,v] 26 (0,0))) (H:w.ownsRow B 5 1 v' l.length (Lib.byteCells l)) (J: ∀g,v'.ownBlock=ϊ g->g∈F):
  Bd B F (w.setCell ⟨b,1,ϋ⟩ v') b l:=by
 have G:=Lib.ownBlock_ne H d bldX.neB5;exact⟨hF,I,_,v',ϕ rfl,by simp[World.setCell,F8,d],H.kept (row:=ϊ b) ⟨rfl,rfl,rfl,by simp[World.setCell],λk _ N=>Below.heap_setCell _ _ _ _ (λe=>N (by simp[e]))⟩ (ϕ G),G,J⟩
def qay (h:Bd B F w b l) (s:ByteArray) (ax:l.length+s.size<=100000000000):
  Calls prog 7 #[γ b,.string s] w λe w'=>e= .returned (.tuple #[ι s.size,.nilIface])/\jt (λx=>x∈F) w w'/\ ∃g,(g∈F∨w.heap.size<=g/\g<w'.heap.size)/\Bd B (g::F) w' b (l++s.data.toList):=by
 obtain⟨aq,hi,an,ao,ap⟩:=info_parts (P:=prog) (e:=5) (z:= υ 0) (size:=1) (bytes:=1) ξ;have hF:=h.1;have af:=h.2.1;have ay:b<w.heap.size:=by obtain⟨_,_,_,_,_,ah,_⟩:=h;exact lt_of_block ah
 have ae:=κ (Ro h);clear h
 go_enter func7,ntmps7
 go_wp2_with (first | (go_at_call 15;(go_call ae.o as e w1 ⟨rfl,⟨v,H,aa,am,U⟩,N⟩;obtain⟨I,J,rfl⟩:=xl aa;have az:w.heap.size<=w1.heap.size:=N.size;have ar:w1.cell? ⟨b,0,ϋ⟩=ϊ (π (ϊ ⟨b,0,ϋ⟩)):=(by rw[Lib.cell_of_heap H];rfl);have c1:w1.cell? ⟨b,1,ϋ⟩=ϊ (δ I l.length J):=(by rw[Lib.cell_of_heap H];rfl))) | (at_builtin;refine Oo rfl _ _ 24 9 rfl B 5 aq underlying24 underlying9 hi an ao ap _ _ _ rfl aa s rfl ?c3 ?c4 ?c5 ?_))
 case c3=>unfold maxLen;omega
 case c4=>omega
 case c5=>omega
 intro v' w2 ab Y ag;have al:b<w1.heap.size:=by omega
 have G:w2.heap[b]? =ϊ (.cells #[γ b,δ I l.length J] 26 (0,0)):=by
  rw[Y.block b al (λe=>am e.symm)];exact H
 have au:w2.cell? ⟨b,0,ϋ⟩=ϊ (π (ϊ ⟨b,0,ϋ⟩)):=by rw[Lib.cell_of_heap G];rfl
 have av:w2.cell? ⟨b,1,ϋ⟩=ϊ (δ I l.length J):=by rw[Lib.cell_of_heap G];rfl
 have aw:w2.frozen? ⟨b,1,ϋ⟩=ύ:=Lib.frozen_of_heap G 1;have ad:jt (λx=>x∈F) w w2:=N.trans ((jt.of_grown Y).mono λk d=>U k d);obtain⟨g,ak,ai,O,ac,cap,rfl⟩: ∃g,(g∈F∨w.heap.size<=g/\g<w2.heap.size)/\(∀k,v'.ownBlock=ϊ k->k∈g::F)/\ ∃O ac cap,v'= δ O ac cap:=by
  rcases id ab.2 with ⟨rfl,_⟩ | ⟨g,cap,cur,rfl,_,aj,_⟩
  ·exact⟨b,ϑ hF,(λk d=>by cases d),_,_,_,rfl⟩
  ·refine⟨g, ?_,(λk d=>by injection d with d;subst d;exact ϟ),_,_,_,rfl⟩;rcases ag g rfl with e | e
   ·exact ϑ (U g e)
   ·exact ϕ ⟨τ,lt_of_block aj⟩
 go_wp2
 go_ret2
 refine⟨rfl,ad.set hF _,g, ?_,Sn (ϛ _ hF) af G ?_ ai⟩
 ·simpa [World.setCell] using ak
 ·rw[ώ,Lib.byteCells_append,<-Lib.strCells_eq];exact ab
def qah (h:Bd B F w b l) (aB:l.length<=100000000000):
  Calls prog 18 #[γ b,υ 10] w λe w'=>e= .returned .nilIface/\jt (λx=>x∈F) w w'/\ ∃g,(g∈F∨w.heap.size<=g/\g<w'.heap.size)/\Bd B (g::F) w' b (l++[10]):=by
 obtain⟨av,hi,aq,ar,au⟩:=info_parts (P:=prog) (e:=5) (z:= υ 0) (size:=1) (bytes:=1) ξ;have hF:=h.1;have aj:=h.2.1;have aC:b<w.heap.size:=by obtain⟨_,_,_,_,_,al,_⟩:=h;exact lt_of_block al
 have af:=κ (Ro h);have ai: ∀l:List UInt8,Lib.byteCells l=(l.map λc=>(c.toNat:Int)).map (Value.int .u8):=λl=>by unfold Lib.byteCells;rw[G4];rfl
 clear h
 go_enter func18,ntmps18
 go_wp2_with (first | (go_at_call 15;(go_call af.o as e w1 ⟨rfl,⟨v,N,O,ap,ab⟩,aa⟩;obtain⟨H,I,rfl⟩:=xl O;have aE:w.heap.size<=w1.heap.size:=aa.size;have aw:w1.cell? ⟨b,0,ϋ⟩=ϊ (π (ϊ ⟨b,0,ϋ⟩)):=(by rw[Lib.cell_of_heap N];rfl);have c1:w1.cell? ⟨b,1,ϋ⟩=ϊ (δ H l.length I):=(by rw[Lib.cell_of_heap N];rfl);have ad:w1.ownsRow B 5 1 (δ H l.length I) (l.map λc=>(c.toNat:Int)).length ((l.map λc=>(c.toNat:Int)).map (Value.int .u8)):=(by rw[ϱ,<-ai];exact O))) | (at_builtin;refine qU _ rfl _ _ 24 rfl B 5 av (υ 0) 1 underlying24 hi aq ar au rfl _ .u8 (l.map λc=>(c.toNat:Int)) rfl (ad.alloc _) _ [10] rfl (SlI.lit .u8 w1 [10] 5 _ 1 _ η rfl η η) (by simp;omega) ζ (by simp;omega) ?_))
 intro v' w2 U ac ak;have aD:b<w1.heap.size:=by omega
 have G:w2.heap[b]? =ϊ (.cells #[γ b,δ H l.length I] 26 (0,0)):=by
  rw[ac.block b (by simp;omega) (λe=>ap e.symm)];exact qs N _
 have ax:w2.cell? ⟨b,0,ϋ⟩=ϊ (π (ϊ ⟨b,0,ϋ⟩)):=by rw[Lib.cell_of_heap G];rfl
 have ay:w2.cell? ⟨b,1,ϋ⟩=ϊ (δ H l.length I):=by rw[Lib.cell_of_heap G];rfl
 have aA:w2.frozen? ⟨b,1,ϋ⟩=ύ:=Lib.frozen_of_heap G 1;have ae:jt (λx=>x∈F) w w2:=(aa.more X6).trans ((jt.of_grown ac).mono λk d=>ab k d);obtain⟨g,ao,am,J,Y,cap,rfl⟩: ∃g,(g∈F∨w.heap.size<=g/\g<w2.heap.size)/\(∀k,v'.ownBlock=ϊ k->k∈g::F)/\ ∃J Y cap,v'= δ J Y cap:=by
  rcases id U.2 with ⟨rfl,_⟩ | ⟨g,cap,cur,rfl,_,an,_⟩
  ·exact⟨b,ϑ hF,(λk d=>by cases d),_,_,_,rfl⟩
  ·refine⟨g, ?_,(λk d=>by injection d with d;subst d;exact ϟ),_,_,_,rfl⟩;rcases ak with e | e
   ·exact ϑ (ab g e.symm)
   ·have az:g=w1.heap.size+1:=by simpa [Value.ownBlock] using e
    exact ϕ ⟨τ,lt_of_block an⟩
 have ag:Hid (w2.ownsRow B 5 1 (δ J Y cap) (l++[10]).length (Lib.byteCells (l++[10]))):=κ (by
  have ah:Lib.byteCells (l++[10])=List.map (Value.int .u8∘λc:UInt8=>(c.toNat:Int)) l++[υ 10]:=by unfold Lib.byteCells;rw[ϩ];rfl
  rw[ώ,ah]
  exact U)
 clear U O ad;go_wp2;go_ret;refine⟨rfl,ae.set hF _,g, ?_,Sn (ϛ _ hF) aj G ?_ am⟩
 ·simpa [World.setCell] using ao
 ·exact ag.o
def qbZ (T:ByteArray):List UInt8:=(qbL ϋ (qg T)).2
def qe0 (h:qc ln=[]) (o:Option RmS):lnS o ln=(o,[]):=by
 unfold lnS;rw[h]
def qd4 (h:qc ln=d::args) (o:Option RmS):lnS o ln=((kc o (d::args)).1,(kc o (d::args)).2++[10]):=by
 unfold lnS;rw[h]
def qdm (T:ByteArray): ∀ln∈qg T,ln.size<=T.size:=by
 intro ln h;rw[BO] at h;obtain⟨p,d,rfl⟩:=ο.1 h;rw[qbQ];exact qfd 10 _ p d
def qdd {L:List ByteArray} (h:j<L.length):wtS ((L.take (j+1)).map qc)=wtS ((L.take j).map qc)+wtL (qc L[j]):=by
 rw[ϡ h,ϩ,qcu];show _+(wtL (qc L[j])+0)=_;omega
def qea (L:List ByteArray) (j:Nat):wtS ((L.take j).map qc)<=wtS (L.map qc):=by
 conv=>rhs;rw[<-A7 j L,ϩ,qcu]
 exact A9 _ _
structure qcP (L:List ByteArray) (j:Nat) (p:Option RmS×List UInt8):Prop where
 eq:qbL ϋ (L.take j)=p
 fine:qca ((L.drop j).map qc) p.1
 len:p.2.length<=1001* j+1700000* wtS ((L.take j).map qc)
def qcP.skip {L:List ByteArray} (h:qcP L j p) (d:j<L.length) (G:qc L[j]=[]):qcP L (j+1) p:=by
 refine⟨?_, ?_, ?_⟩
 ·rw[qcV _ _ _ d,h.eq,qe0 G,Θ]
 ·have f:=h.fine;rw[D1 d,Ϛ,G] at f;exact f.skip rfl
 ·have:=h.len;rw[qdd d];omega
def qcP.fineAt {L:List ByteArray} (h:qcP L j p) (G:j<L.length) (H:qc L[j]=d::args):qca ((d::args)::(L.drop (j+1)).map qc) p.1:=by
 have f:=h.fine;rw[D1 G,Ϛ,H] at f;exact f
def qcP.next {L:List ByteArray} (h:qcP L j p) (d:j<L.length) (G:qc L[j]=H::args) (I: ∀s,p.1=ϊ s-> ∀x,∀q∈(s.ln x).W,Byt q.2):qcP L (j+1) ((kc p.1 (H::args)).1,p.2++(kc p.1 (H::args)).2++[10]):=by
 have J:=(qcm (h.fineAt d G) I).1;have N:=qel (h.fineAt d G) I;refine⟨?_,J, ?_⟩
 ·rw[qcV _ _ _ d,h.eq,qd4 G,ϭ]
 ·have:=h.len;rw[qdd d,G];simp only[ώ,I1];omega
def qeZ {bq:Int} (T:ByteArray) (bh:T.size<=3000) (aH:okL ((qg T).map qc)) (w:World) (aI:w.cell? ⟨OQ,0,ϋ⟩=ϊ (ι bq)) (bn:Lib.TabIs prog w N9 .u64 Lib.pow10Tab):
  Calls prog 10 #[.string T] w λe w'=>e= .returned (.tuple #[.string ⟨(qbZ T).toArray⟩,ι 0])/\ql w w'/\(qbZ T).length<=1001* (qg T).length+1700000* wtS ((qg T).map qc):=by
 have bk:OQ<w.heap.size:=(Gb aI).2;obtain⟨W1,aF⟩:=ν (w.alloc (.cells #[π ϋ,()] 26));obtain⟨W2,aG⟩:=ν (W1.alloc (.cells #[π ϋ] 46));have I:ql w W1:=by rw[<-aF];exact ql.alloc _ _
 have ak:ql W1 W2:=by rw[<-aG];exact ql.alloc _ _
 have aJ:W1.heap.size=w.heap.size+1:=by rw[<-aF];simp
 have bm:W2.heap.size=w.heap.size+2:=by rw[<-aG];simp[aJ]
 have aT:=κ (λw' (m:ql w w')=>show w'.cell? ⟨OQ,0,ϋ⟩=ϊ (ι bq) from by rw[m.cells _ _ bk];exact aI);have ai:=κ (So T ⟨#[10]⟩ W2 τ (aT.o _ (I.trans ak)) ζ);rw[show Lib.splitB ⟨#[10]⟩ 0 (Lib.countB T ⟨#[10]⟩) T=qg T from rfl,<-qcM T] at ai;have bi:=qdv T;have aU:Hid (qbZ T=(qbL ϋ (qg T)).2):=κ rfl;have aY:=κ (qdm T);have aX:Hid (wtS ((qg T).map qc)<=3001):=κ (ϙ (qdr T) τ);obtain⟨L,aE⟩:=ν (qg T);rw[aE] at ai bi aH aU aY aX;have bC:=κ aE;have ca:L.length<=3001:=by omega
 have bY: ¬(3000:Int)<(T.size:Int):=by omega
 have bA:Hid (qcP L 0 (ϋ,[])):=κ ⟨rfl,qca.none aH,ϫ _⟩;have bE:=κ bn;have aN:Hid (W2.heap[w.heap.size]? =ϊ (.cells #[π ϋ,()] 26 (0,0))):=κ (qq ak (by rw[<-aF];exact qj _ _));have aO:Hid (W2.heap[W1.heap.size]? =ϊ (.cells #[π ϋ] 46 (0,0))):=κ (by rw[<-aG];exact qj _ _);have bJ:=κ (I.trans ak);have aV:=κ aJ;have aW:=κ bm;have bF:Hid (T.size<=3000):=κ bh;clear aI bn bk I ak aJ bm aH aE bh bi
 go_enter func10,ntmps10
 go_wp2_with ((go_at_call 6;(go_call ai.o as e ad ⟨rfl,ao⟩;have ay:Hid (ql W2 ad):=κ (by rw[ao];exact ql.alloc _ _);have ab:Hid (ad.heap[W2.heap.size]? =ϊ (.cells (L.map Value.string).toArray 9 (0,0))):=κ (by rw[ao];exact qj _ _);clear ao)))
 have bR:=aV.o;have bS:=aW.o;have bT:=qn ab.o;have aB:Hid (∃G,W1.heap.size∉G/\W2.heap.size∉G/\Pl w W1.heap.size ϋ ([W1.heap.size,W2.heap.size]++G) ad/\Bd w.heap.size G ad w.heap.size []/\ad.heap[W2.heap.size]? =ϊ (.cells (L.map Value.string).toArray 9 (0,0))):=κ
  ⟨[w.heap.size],(by simp;omega),(by simp;omega),⟨η,λb d=>by simp at d;omega,bJ.o.trans ay.o,qq ay.o aO.o⟩,⟨η,ϔ _,_,_,ϑ rfl,qq ay.o aN.o,World.ownsRow_nil _ _ _ _,by simp[Value.ownBlock],λg h=>by cases h⟩,ab.o⟩
 clear bR bS bT ai ab aO aN
 go_loopw [15] (λaK wr=> ∃j:Nat,j<=L.length/\aK= ι j/\ ∃G p,W1.heap.size∉G/\W2.heap.size∉G/\Pl w W1.heap.size p.1 ([W1.heap.size,W2.heap.size]++G) wr/\Bd w.heap.size G wr w.heap.size p.2/\wr.heap[W2.heap.size]? =ϊ (.cells (L.map Value.string).toArray 9 (0,0))/\qcP L j p) (λaK _=>L.length-(intOf aK).toNat)
 case atStart=>
  obtain⟨G,bO,bP,a3,a4,a5⟩:=aB.o;exact⟨0,τ,rfl,G,(ϋ,[]),bO,bP,a3,a4,a5,bA.o⟩
 case round=>
  obtain⟨j,bZ,rfl,G,⟨o,af⟩,n1,n2,J,d,ae,H⟩:=hrel;have O:=κ n1;have al:=κ n2;have ac:=κ J;have aQ:=κ d;have aS:=κ ae;have bV:=κ H;by_cases hlt:j<L.length
  ·have bQ:(j:Int)<(L.length:Int):=by omega
   have bW:wr.cell? ⟨W2.heap.size,j,ϋ⟩=ϊ (.string L[j]):=qa ae j (by simp[ϖ hlt]);have aj:=κ (qc7 L[j] (by have:=aY.o L[j] (ϥ hlt);have:=bF.o;omega) wr (aT.o wr J.2.2.1));have av:Hid (∀s,o=ϊ s-> ∀x,∀q∈(s.ln x).W,Byt q.2):=κ (λs e x=>by subst e;exact J.wbyt x);obtain⟨ws,Y⟩:=ν (qc L[j]);rw[Y] at aj;cases ws with
   | nil=>
    have N:=κ (H.skip hlt Y);generalize L[j]=ln at *;clear n1 n2 J d ae Y aB H
    go_wp2_with ((go_at_call 9;(go_call aj.o as e w1 ⟨⟨br,cap,rfl,s1⟩,aa⟩;have I:=κ aa;clear s1 aa)))
    have bd:=ac.o.stay I.o;have ar:=ac.o.on I.o;have bu:=aQ.o.more (F:=G) ⟨bd.1,λb d=>bd.2 b (ϐ _ d) (λe=>O.o (e▸d))⟩;have bG:=qq I.o aS.o;go_roundw
    case rel=>exact⟨j+1,τ,by go_num,G,(o,af),O.o,al.o,ar,bu,bG,N.o⟩
    case measure=>simp[intOf];omega
   | cons nm args=>
    have N:=κ (H.next hlt Y av.o);have aw:=κ (H.fineAt hlt Y);have bo:=H.len;simp only at bo;have bj:=(qcm aw.o av.o).2;have ah:Hid (af.length<=3001* 8000021/\(kc o (nm::args)).2.length<=8000020):=κ ⟨by have:=qea L j;have:=aX.o;omega,bj⟩;have ax:Hid (∀w1 c off cap,Pl w W1.heap.size o ([W1.heap.size,W2.heap.size]++G) w1->SlP 1 RTx w1 (δ (ϊ ⟨c,off,ϋ⟩) (args.length+1) cap) (nm::args)->_):=κ (λw1 c off cap h s=>qem (b:=c) (off:=off) (cap:=cap) h s bE.o aw.o);simp only at N;obtain⟨q,bl⟩:=ν (kc o (nm::args));obtain⟨bU,be⟩:=q;rw[bl] at N ah ax;simp only at N ah ax;have aD:(nm::args).length=args.length+1:=rfl;rw[aD] at aj;generalize L[j]=ln at *;clear n1 n2 J d ae Y aB H bl bo bj aw av
    go_wp2_with (first | (go_at_call 9;(go_call aj.o as e w1 ⟨⟨br,cap,rfl,s1⟩,aa⟩;obtain⟨c,off,cs,rfl,_,_,_,_⟩:=(show ∃b off cs,br=ϊ ⟨b,off,ϋ⟩/\b<w1.heap.size/\cs.length=1/\(∀j,j<1->w1.cell? ⟨b,off+0* 1+j,ϋ⟩=cs[j]?)/\RTx w1 cs nm from (by obtain⟨cb,bX,e,_,aq,_⟩:=s1;injection e with aD e2 ao;subst aD;exact aq 0 (Nat.succ_pos _)));have ar:=κ (ac.o.on aa);have bB:=κ (ax.o w1 c off cap ar.o s1);have bN:=κ (ac.o.stay aa);clear s1 aa)) | (go_at_call 17;(go_call bB.o as e w2 ⟨rfl,aq,t2⟩;have au:=κ aq;have aC:=κ (bN.o.trans t2);have bv:=κ (aQ.o.more (F:=G) ⟨aC.o.1,λb d=>aC.o.2 b (ϐ _ d) (λe=>O.o (e▸d))⟩);have bH:=κ (aC.o.blk η (λe=>by have:=aV.o;have:=aW.o;omega) aS.o);clear aq t2)) | (go_at_call 7;(go_call qay bv.o ⟨be.toArray⟩ (by have:=ah.o;simp[ByteArray.size];omega) as e cc ⟨rfl,a3,U,bs,bf⟩;have aL:=κ a3;have az:=κ bs;have ab:=κ bf;clear a3 bs bf)) | (go_at_call 18;(go_call qah ab.o (by have:=ah.o;simp;omega) as e w4 ⟨rfl,a4,ap,bt,bg⟩;have aM:=κ a4;have aA:=κ bt;have bw:=κ bg;clear a4 bt bg)))
    have am:W1.heap.size∉U::G:=λe=>by
     rcases Ϟ.1 e with e | e
     ·rcases az.o with f | f
      ·exact O.o (e▸f)
      ·have:=au.o.lt W1.heap.size η;omega
     ·exact O.o e
    have an:W2.heap.size∉U::G:=λe=>by
     rcases Ϟ.1 e with e | e
     ·rcases az.o with f | f
      ·exact al.o (e▸f)
      ·have:=au.o.lt W2.heap.size η;omega
     ·exact al.o e
    have ag:=au.o.mutA (Fn:=[U]) aL.o (λb d=>ϐ _ d) O.o (λb d=>by
     simp at d;subst d
     exact az.o.elim (λf=>ϑ (ϐ _ f)) ϕ)
    have aZ:=aL.o.blk bH.o al.o
    have aP:=ag.mutA (Fn:=[ap]) aM.o (λb d=>by
     rcases Ϟ.1 d with e | e
     ·rw[e];simp
     ·exact ϐ _ (ϐ _ e)) am (λb d=>by
     simp at d;subst d;rcases aA.o with f | f
     ·refine ϑ ?_;rcases Ϟ.1 f with e | e
      ·rw[e];simp
      ·exact ϐ _ (ϐ _ e)
     ·exact ϕ f)
    have ba:=aM.o.blk aZ an;have bb:W1.heap.size∉ap::U::G:=λe=>by
     rcases Ϟ.1 e with e | e
     ·rcases aA.o with f | f
      ·exact am (e▸f)
      ·have:=ag.lt W1.heap.size η;omega
     ·exact am e
    have bc:W2.heap.size∉ap::U::G:=λe=>by
     rcases Ϟ.1 e with e | e
     ·rcases aA.o with f | f
      ·exact an (e▸f)
      ·have:=ag.lt W2.heap.size η;omega
     ·exact an e
    have bx:=κ (aP.sub (F':=[W1.heap.size,W2.heap.size]++(ap::U::G)) (λb d=>by
     rcases Ϫ.1 d with e | e
     ·exact ϐ _ (ϐ _ (Ω _ e))
     ·rcases Ϟ.1 e with e | e
      ·rw[e];simp
      ·rcases Ϟ.1 e with e | e
       ·rw[e];simp
       ·exact ϐ _ (ϐ _ (ϐ _ e))) η)
    have bI:=κ ba;have bL:=κ bb;have bM:=κ bc;clear am an ag aZ aP ba bb bc;go_roundw
    case rel=>exact⟨j+1,τ,by go_num,_,(bU,af++be++[10]),bL.o,bM.o,bx.o,bw.o,bI.o,N.o⟩
    case measure=>simp[intOf];omega
  ·obtain rfl:j=L.length:=by omega
   have bQ: ¬((L.length:Nat):Int)<(L.length:Int):=by omega
   have bD:=κ (Ts w.heap.size w.heap.size af wr d.is J.2.2.1.size);have aR:Hid (qbZ T=af):=κ (by have e:=H.eq;rw[Ϩ] at e;rw[aU.o,e]);have bz:Hid ((qbZ T).length<=1001* (qg T).length+1700000* wtS ((qg T).map qc)):=κ (by have e:=H.len;rw[Ϩ] at e;rw[aR.o,bC.o];exact e);clear n1 n2 J d ae
   go_wp2_with ((go_at_call 12;(go_call bD.o as e w5 ⟨rfl,bp⟩;have bK:=κ bp;clear bp)))
   go_ret2
   exact⟨by rw[aR.o];rfl,Below.trans ac.o.2.2.1 bK.o,bz.o⟩
def qdL {J:Int} (T:ByteArray) (d:T.size<=3000) (G:okL ((qg T).map qc)) (w:World) (H:w.cell? ⟨OQ,0,ϋ⟩=ϊ (ι J)) (I:Lib.TabIs prog w N9 .u64 Lib.pow10Tab):
  Calls prog 10 #[.string T] w λe w'=>e= .returned (.tuple #[.string ⟨(qbZ T).toArray⟩,ι 0])/\ql w w':=(qeZ T d G w H I).mono λ_ _ h=>⟨h.1,h.2.1⟩
def awT:List UInt8:=[101,110,100,101,100,10,114,111,111,109,32,50,32,50,32,49,32,49,32,50,32,49,10,112,117,98,108,105,115,104,32,48,32,55,32,56,32,57,10,106,111,105,110,32,48,32,53,48,32,53,32,49,48,48,10,116,97,107,101,32,48,32,48,32,48,10,10,107,101,121,32,55,32,49,32,57,10,116,117,114,110,32,49,10,119,114,111,116,101,32,48,10,99,111,117,110,116,115,10,102,97,116,101,115,32,48,10,98,111,111,10,116,105,99,107,32,50,49,10,114,101,97,100,10,114,111,111,109,32,48,32,48,32,48,32,48,32,48,32,48,10,97,115,107,115]
def awS:List UInt8:=[101,114,114,111,114,32,53,10,111,107,10,111,107,10,111,107,10,111,107,10,111,107,10,111,107,32,53,10,111,107,32,48,58,53,58,49,48,48,10,111,107,32,48,32,48,32,48,32,48,32,49,10,111,107,32,48,32,49,32,48,32,48,32,48,32,48,32,48,32,48,32,48,10,101,114,114,111,114,32,50,10,101,114,114,111,114,32,50,10,111,107,32,110,111,10,101,114,114,111,114,32,49,10,111,107,32,110,111,110,101,10]
def qez:gt 10 awT=[[101,110,100,101,100],[114,111,111,109,32,50,32,50,32,49,32,49,32,50,32,49],[112,117,98,108,105,115,104,32,48,32,55,32,56,32,57],[106,111,105,110,32,48,32,53,48,32,53,32,49,48,48],[116,97,107,101,32,48,32,48,32,48],[],[107,101,121,32,55,32,49,32,57],[116,117,114,110,32,49],[119,114,111,116,101,32,48],[99,111,117,110,116,115],[102,97,116,101,115,32,48],[98,111,111],[116,105,99,107,32,50,49],[114,101,97,100],[114,111,111,109,32,48,32,48,32,48,32,48,32,48,32,48],[97,115,107,115]]:=by kernel_rfl
def qfG:qc (ofL [101,110,100,101,100])=[⟨#[101,110,100,101,100]⟩]:=by rw[qd];kernel_rfl
def qfF:qc (ofL [114,111,111,109,32,50,32,50,32,49,32,49,32,50,32,49])=[⟨#[114,111,111,109]⟩,⟨#[50]⟩,⟨#[50]⟩,⟨#[49]⟩,⟨#[49]⟩,⟨#[50]⟩,⟨#[49]⟩]:=by rw[qd];kernel_rfl
def qfE:qc (ofL [112,117,98,108,105,115,104,32,48,32,55,32,56,32,57])=[⟨#[112,117,98,108,105,115,104]⟩,⟨#[48]⟩,⟨#[55]⟩,⟨#[56]⟩,⟨#[57]⟩]:=by rw[qd];kernel_rfl
def qfD:qc (ofL [106,111,105,110,32,48,32,53,48,32,53,32,49,48,48])=[⟨#[106,111,105,110]⟩,⟨#[48]⟩,⟨#[53,48]⟩,⟨#[53]⟩,⟨#[49,48,48]⟩]:=by rw[qd];kernel_rfl
def qfC:qc (ofL [116,97,107,101,32,48,32,48,32,48])=[⟨#[116,97,107,101]⟩,⟨#[48]⟩,⟨#[48]⟩,⟨#[48]⟩]:=by rw[qd];kernel_rfl
def qfB:qc (ofL [])=[]:=by rw[qd];kernel_rfl
def qfA:qc (ofL [107,101,121,32,55,32,49,32,57])=[⟨#[107,101,121]⟩,⟨#[55]⟩,⟨#[49]⟩,⟨#[57]⟩]:=by rw[qd];kernel_rfl
def qfz:qc (ofL [116,117,114,110,32,49])=[⟨#[116,117,114,110]⟩,⟨#[49]⟩]:=by rw[qd];kernel_rfl
def qfy:qc (ofL [119,114,111,116,101,32,48])=[⟨#[119,114,111,116,101]⟩,⟨#[48]⟩]:=by rw[qd];kernel_rfl
def qfx:qc (ofL [99,111,117,110,116,115])=[⟨#[99,111,117,110,116,115]⟩]:=by rw[qd];kernel_rfl
def qfm:qc (ofL [102,97,116,101,115,32,48])=[⟨#[102,97,116,101,115]⟩,⟨#[48]⟩]:=by rw[qd];kernel_rfl
def qfl:qc (ofL [98,111,111])=[⟨#[98,111,111]⟩]:=by rw[qd];kernel_rfl
def qfk:qc (ofL [116,105,99,107,32,50,49])=[⟨#[116,105,99,107]⟩,⟨#[50,49]⟩]:=by rw[qd];kernel_rfl
def qfj:qc (ofL [114,101,97,100])=[⟨#[114,101,97,100]⟩]:=by rw[qd];kernel_rfl
def qfi:qc (ofL [114,111,111,109,32,48,32,48,32,48,32,48,32,48,32,48])=[⟨#[114,111,111,109]⟩,⟨#[48]⟩,⟨#[48]⟩,⟨#[48]⟩,⟨#[48]⟩,⟨#[48]⟩,⟨#[48]⟩]:=by rw[qd];kernel_rfl
def qfh:qc (ofL [97,115,107,115])=[⟨#[97,115,107,115]⟩]:=by rw[qd];kernel_rfl
def awL:List (List ByteArray):=[[⟨#[101,110,100,101,100]⟩],[⟨#[114,111,111,109]⟩,⟨#[50]⟩,⟨#[50]⟩,⟨#[49]⟩,⟨#[49]⟩,⟨#[50]⟩,⟨#[49]⟩],[⟨#[112,117,98,108,105,115,104]⟩,⟨#[48]⟩,⟨#[55]⟩,⟨#[56]⟩,⟨#[57]⟩],[⟨#[106,111,105,110]⟩,⟨#[48]⟩,⟨#[53,48]⟩,⟨#[53]⟩,⟨#[49,48,48]⟩],[⟨#[116,97,107,101]⟩,⟨#[48]⟩,⟨#[48]⟩,⟨#[48]⟩],[],[⟨#[107,101,121]⟩,⟨#[55]⟩,⟨#[49]⟩,⟨#[57]⟩],[⟨#[116,117,114,110]⟩,⟨#[49]⟩],[⟨#[119,114,111,116,101]⟩,⟨#[48]⟩],[⟨#[99,111,117,110,116,115]⟩],[⟨#[102,97,116,101,115]⟩,⟨#[48]⟩],[⟨#[98,111,111]⟩],[⟨#[116,105,99,107]⟩,⟨#[50,49]⟩],[⟨#[114,101,97,100]⟩],[⟨#[114,111,111,109]⟩,⟨#[48]⟩,⟨#[48]⟩,⟨#[48]⟩,⟨#[48]⟩,⟨#[48]⟩,⟨#[48]⟩],[⟨#[97,115,107,115]⟩]]
def qdo:Option RmS->List (List ByteArray)->Option RmS×List UInt8
 | o,[]=>(o,[])
 | o,[]::L=>qdo o L
 | o,(nm::args)::L=>((qdo (kc o (nm::args)).1 L).1,(kc o (nm::args)).2++10::(qdo (kc o (nm::args)).1 L).2)
def qeY:(qdo ϋ awL).2=awS:=by kernel_rfl
def qd8: ∀(L:List ByteArray) (o:Option RmS),qbL o L=qdo o (L.map qc)
 | [],_=>rfl
 | ln::L,o=>by
  rw[qbX,Ϛ,qd8 L];cases h:qc ln with
  | nil=>rw[qe0 h];rfl
  | cons nm args=>
   rw[qd4 h];show _=((qdo (kc o (nm::args)).1 (L.map qc)).1,(kc o (nm::args)).2++10::(qdo (kc o (nm::args)).1 (L.map qc)).2);simp only[ϭ,List.singleton_append]
def qey:(qg (ofL awT)).map qc=awL:=by
 rw[BO];show ((gt 10 awT).map ofL).map qc=awL;rw[qez];simp only[Ϛ,C6,qfG,qfF,qfE,qfD,qfC,qfB,qfA,qfz,qfy,qfx,qfm,qfl,qfk,qfj,qfi,qfh];rfl
def qfn:qbZ (ofL awT)=awS:=by
 unfold qbZ;rw[qd8,qey,qeY]
def qfH:okL ((qg (ofL awT)).map qc):=by
 refine qcA _ ?_;have h:=qdr (ofL awT);rw[qbQ] at h;have:awT.length<=300:=by decide
 omega
def qcQ (a:List UInt8):wtS ((qg (ofL a)).map qc)<=a.length+1:=by
 have h:=qdr (ofL a);rw[qbQ] at h;exact h
def qfL {a:List UInt8} (h:a.length<=1000):okL ((qg (ofL a)).map qc):=qcA _ (by have:=qcQ a;omega)
def qfg:qc ⟨#[32,97,32,32,98]⟩=[⟨#[97]⟩,⟨#[98]⟩]:=by
 rw[qd]
 kernel_rfl
def qdK {ae:Int} (w:World) (d:w.cell? ⟨OQ,0,ϋ⟩=ϊ (ι ae)) (J:Lib.TabIs prog w N9 .u64 Lib.pow10Tab):
  Calls prog 5 #[] w λe w'=>e= .returned (μ ό)/\ql w w':=by
 have aa:Hid (Calls prog 10 #[.string ⟨#[101,110,100,101,100,10,114,111,111,109,32,50,32,50,32,49,32,49,32,50,32,49,10,112,117,98,108,105,115,104,32,48,32,55,32,56,32,57,10,106,111,105,110,32,48,32,53,48,32,53,32,49,48,48,10,116,97,107,101,32,48,32,48,32,48,10,10,107,101,121,32,55,32,49,32,57,10,116,117,114,110,32,49,10,119,114,111,116,101,32,48,10,99,111,117,110,116,115,10,102,97,116,101,115,32,48,10,98,111,111,10,116,105,99,107,32,50,49,10,114,101,97,100,10,114,111,111,109,32,48,32,48,32,48,32,48,32,48,32,48,10,97,115,107,115]⟩] w λe w'=>e= .returned (.tuple #[.string ⟨#[101,114,114,111,114,32,53,10,111,107,10,111,107,10,111,107,10,111,107,10,111,107,10,111,107,32,53,10,111,107,32,48,58,53,58,49,48,48,10,111,107,32,48,32,48,32,48,32,48,32,49,10,111,107,32,48,32,49,32,48,32,48,32,48,32,48,32,48,32,48,32,48,10,101,114,114,111,114,32,50,10,101,114,114,111,114,32,50,10,111,107,32,110,111,10,101,114,114,111,114,32,49,10,111,107,32,110,111,110,101,10]⟩,ι 0])/\ql w w'):=κ (by
  have h:=qdL (ofL awT) (by rw[qbQ];decide) qfH w d J;rw[qfn] at h
  exact h)
 have ab:Hid (∀w',ql w w'->Calls prog 9 #[.string ⟨#[32,97,32,32,98]⟩] w' λe w''=>(∃G cap,e= .returned (δ G 2 cap)/\SlP 1 RTx w'' (δ G 2 cap) [⟨#[97]⟩,⟨#[98]⟩])/\ql w' w''):=κ (λw' m=>by
  have h:=qc7 ⟨#[32,97,32,32,98]⟩ ζ w' (by rw[m.cells _ _ (Gb d).2];exact d);rw[qfg] at h
  exact h)
 clear d J
 go_enter func5,ntmps5
 go_wp2_with (first | (go_at_call 10;(go_call aa.o as e w1 ⟨rfl,N⟩;have H:=κ N;clear N)) | (go_at_call 9;(go_call ab.o _ H.o as e w2 ⟨⟨G,cap,rfl,s2⟩,O⟩;have ac:=κ (H.o.trans O);obtain⟨I,off,rfl,U⟩:=s2.strs (ql.refl _) 0 ζ;obtain⟨_,_,ad,Y⟩:=s2.strs (ql.refl _) 1 ζ;cases ad;have af:w2.cell? ⟨I,off,ϋ⟩=ϊ (.string ⟨#[97]⟩):=U;have ag:w2.cell? ⟨I,off+1,ϋ⟩=ϊ (.string ⟨#[98]⟩):=Y;clear U Y s2 O)))
 go_ret;exact⟨rfl,ac.o⟩
end Go.Proofs.YtmgaiiffmheabaaGreatDoor
